/- Texts of this claim, joined: BbP BcP Dck VdP Ca Dcv Dca EvP Dew ScP Dxc -/
import Derived.Test.YtjcofbkhoeockaaGreatDoorN05
import Derived.Test.YtjcofbkhoeockaaGreatDoorProg
set_option linter.unusedVariables false
set_option linter.unusedSimpArgs false
namespace Go.Proofs.YtjcofbkhoeockaaGreatDoor
open _root_.List renaming length->Aa,map->Ae,drop->Ag,getElem?_eq_getElem->Am,mem_map->Ao,getD_eq_getElem?_getD->Ap,range->As,flatMap->Ay,mem_range->Az,all_eq_true->AD,getD->AG,getElem_mem->AI,map_map->AK,length_map->AL,take->AM,drop_zero->AN,mem_cons->AO,flatMap_map->AQ,range_succ->AR,headD->AS,mem_take_iff_getElem->AU,take_length->AW,getElem_of_mem->A0,pairwise_iff_getElem->A1,getElem?_range->A2,not_mem_nil->A3,map_congr_left->A4
open _root_.Bool renaming false->Ab,true->Ad,not_eq_true'->A5,true_and->A6
open _root_.Go.Proofs.Tryz renaming prog->Af
open D renaming row->Ah,own->Ai,val->Al,agg->An
open _root_.Option renaming some->Aj,getD_some->AX
open _root_.Inhabited renaming default->Ak
open Value renaming int->Aq,bool->AF
open _root_.Int renaming toNat->Ar,toNat_natCast->AJ
open _root_.Nat renaming lt_or_ge->Au,le_refl->Ax,le_trans->AA,pow_le_pow_right->AH,mul_le_mul_right->AV
open Sm renaming pow->Aw
open IntKind renaming i64->AB,u64->AC,wrap->AP,u32->AT
open Kd renaming plain->AE
open _root_.Classical renaming choose->AY,byContradiction->AZ
open Go.RowKit
structure Inp where
 n:Nat
 f:Nat
 desc:List Bool
 P:List Nat
 A:List (List Nat×List Rw)
structure Inp.Ok(I:Inp):Prop where
 n:I.n<=6
 f:I.f<=I.n
 d:I.desc.length=I.f
 P:I.P.length+I.f=I.n
 P2:∀v∈I.P,I.f<=v/\v<I.n
 P3:I.P.Nodup
 A:I.A.length<=5
 V:Vok I.n I.A.length λi=>(I.A.getD i Ak).1
 R:∀a∈I.A,a.2.length<=10/\Rsc a.2/\∀r∈a.2,r.length=a.1.length/\∀v∈r,vok v=Ad/\Vs v
 C:combs I.A<=5000
abbrev Inp.O(I:Inp):List Nat:=ordL I.f I.P
abbrev Inp.E(I:Inp):List Nat:=I.A.map λa=>msk a.1
abbrev Inp.nb(I:Inp):Nat->Nat:=λv=>if v<I.n then nbE I.E v else 0
abbrev Inp.bag(I:Inp):Nat->Bg:=bagE I.n I.O I.nb
abbrev Inp.L(I:Inp):List Bg:=(As I.n).map I.bag
abbrev Inp.R(I:Inp):List (List Nat×List Rw):=I.L.map (matA I.A)
abbrev Inp.b(I:Inp):Bd:=⟨I.n,I.f,I.desc,I.P,I.A,I.L,I.R,I.E⟩
abbrev Inp.VT(I:Inp):Nat->List Rw:=(tab I.b I.O I.n).1
abbrev Inp.TT(I:Inp):Nat->List (Rw×Nat):=(tab I.b I.O I.n).2
theorem cE_ok:∀na:Fin 6,∀k:Fin 7,(na.val+1)*cE na.val 16 k.val+1<=100000000000000000:=by decide
section
variable {I : Inp} (h : I.Ok)
include h
theorem Inp.ook:Ook I.n I.O:=⟨by have:=h.n;omega,zPi h.P,zS5 h.P h.P2,zS4 h.P2 h.P3⟩
theorem Inp.Elt:∀e∈I.E,e<2^I.n:=λe he=>by
 obtain⟨a,ha,rfl⟩:=Ao.1 he;obtain⟨_,h2⟩:=zVk h.V a ha;refine zT6 λv hv=>?_;rw[zPo,decide_eq_false_iff_not];intro hm
 have:=h2 v hm
 omega
theorem Inp.bok:Bgk I.n I.O I.bag:=bagE_ok (Inp.ook h) (nb0_ok (by have:=h.n;omega) (Inp.Elt h))
omit h in
theorem Inp.Lat{v:Nat}(hv:v<I.n):I.L.getD v Ak=I.bag v:=by
 grind
omit h in
theorem Inp.Rat{v:Nat}(hv:v<I.n):I.R.getD v Ak=matA I.A (I.bag v):=by
 grind
theorem Inp.bits{v w:Nat}(hv:v<I.n):(bgS (I.bag v)).testBit w=((I.bag v).k.testBit w||decide (w=v)):=by
 rw[bgS,(Inp.bok h).v,Nat.testBit_or,Nat.testBit_two_pow];grind
theorem Inp.bits_n{v w:Nat}(hv:v<I.n)(hw:(bgS (I.bag v)).testBit w=Ad):w<I.n:=by
 rw[Inp.bits h hv,Bool.or_eq_true,decide_eq_true_eq]at hw;rcases hw with hw|rfl
 ·exact((Inp.bok h).r v w hv hw).1
 exact hv
theorem Inp.memn{v w:Nat}(hv:v<I.n):w∈zBb (bgS (I.bag v))↔(bgS (I.bag v)).testBit w=true:=by
 unfold zBb;rw[List.mem_filter,Az]
 have:=h.n
 exact⟨λhh=>hh.2,λhh=>⟨by have:=Inp.bits_n h hv hh;omega,hh⟩⟩
theorem Inp.mem_len{v:Nat}(hv:v<I.n):0<(zBb (bgS (I.bag v))).length/\(zBb (bgS (I.bag v))).length<=I.n:=by
 constructor
 ·refine List.length_pos_of_mem ((Inp.memn h hv (w:=v)).2 ?_);rw[Inp.bits h hv];simp
 exact zF4 (List.nodup_range.filter _) λw hw=>Inp.bits_n h hv ((Inp.memn h hv).1 hw)
theorem Inp.s32{v:Nat}(hv:v<I.n):bgS (I.bag v)<4294967296/\bgS (I.bag v)>>>I.n=0:=by
 have hn:=h.n;have h1:bgS (I.bag v)<2^I.n:=zT6 λw hw=>by
  cases e:(bgS (I.bag v)).testBit w with
  |false=>rfl
  |true=>have:=Inp.bits_n h hv e;omega
 exact⟨Nat.lt_of_lt_of_le h1 (AH (n:=2) (by omega) (by omega:I.n<=32)),by rw[Nat.shiftRight_eq_div_pow];exact Nat.div_eq_of_lt h1⟩
theorem Inp.rows10:∀a∈I.A,a.2.length<=65536:=λa ha=>by have:=(h.R a ha).1;omega
theorem Inp.aok{v:Nat}(hv:v<I.n):AOk (mkP (bgS (I.bag v)) I.A):=part_ok (by have:=h.n;omega:I.n<=32) (Inp.s32 h hv).2 (by have:=h.A;omega) h.V (Inp.rows10 h)
theorem Inp.jlen{v:Nat}(hv:v<I.n):(jn (mkP (bgS (I.bag v)) I.A)).length<=5000:=AA (jn_len (Inp.aok h hv)) h.C
theorem Inp.jall{v:Nat}(hv:v<I.n):∀x∈jn (mkP (bgS (I.bag v)) I.A),x.length=(zBb (bgS (I.bag v))).length/\∀u∈x,vok u=Ad/\Vs u:=jn_all (λu=>vok u=Ad/\Vs u) (Inp.aok h hv) λa ha r hr=>(h.R a ha).2.2 r hr
theorem Inp.par{v c:Nat}(hv:v<I.n)(hc:c<I.n)(hp:(I.bag c).p=(v:Int)):I.O.idxOf c<I.O.idxOf v:=((Inp.bok h).r c v hc ((Inp.bok h).p c v hc hp).1).2
theorem Inp.chs{v:Nat}(hv:v<I.n):∀c∈chV I.b v,c.1<I.n/\I.O.idxOf c.1<I.O.idxOf v:=λc hc=>by
 obtain⟨h1,h2,_⟩:=zG3 hc;have h1:c.1<I.n:=by simpa using h1
 rw[Inp.Lat h1]at h2;exact⟨h1,Inp.par h hv h1 h2⟩
omit h in
theorem Inp.chn(v:Nat):((chV I.b v).map (·.1)).Nodup:=by
 unfold chV chI;grind [AK,zC3,List.map_id,List.nodup_range.filter]
theorem Inp.ixP{i:Nat}(hi:i<I.P.length):I.O.idxOf (I.P.getD i 0)=i:=by
 have hl:=h.P;have h1:=(Inp.ook h).at (i:=i) (by omega);simp_all [Inp.O,ordL,Ap,List.getElem?_append_left]
theorem Inp.ixF{v:Nat}(hv:v<I.f):I.O.idxOf v=I.P.length+(I.f-1-v):=by
 have hl:=h.P;have h1:=(Inp.ook h).at (i:=I.P.length+(I.f-1-v)) (by omega);have e:I.O.getD (I.P.length+(I.f-1-v)) 0=v:=by
  unfold Inp.O ordL;grind
 rw[e]at h1;exact h1.2
theorem Inp.take{c i:Nat}(hc:c<I.n)(hi:I.O.idxOf c<i)(hil:i<=I.P.length):c∈I.P.take i:=by
 have h1:=((Inp.ook h).ix hc).2;generalize I.O.idxOf c=j at*;have h2:I.P.getD j 0=c:=by
  rw[<-h1];unfold Inp.O ordL;grind
 grind [Am,AU]
theorem Inp.teq{v:Nat}(hv:v<I.n):I.VT v=redK (λx=>wtL I.f I.VT I.TT x (chV I.b v)) (keyC I.b v) (I.b.R.getD v Ak).2/\I.TT v=totL (grpL (I.desc.getD v Ab) (λx=>wtL I.f I.VT I.TT x (chV I.b v)) (I.b.R.getD v Ak).2):=tab_eq (b:=I.b) (O:=I.O) (Inp.ook h) (λv hv=>Inp.chs h hv) hv
theorem Inp.tle{v e:Nat}(he:e=5216)(hv:v<I.n):∀p∈I.TT v,p.2<=2^e:=λp hp=>by
 have hn:=h.n;have h1:=tab_le (b:=I.b) (O:=I.O) (V:=I.VT) (T:=I.TT) (Inp.ook h) (λv hv=>Inp.chs h hv) (λv _=>Inp.chn v) (λv hv=>(Inp.teq h hv).2) (λv hv=>by
  show(I.R.getD v Ak).2.length<=_;rw[Inp.Rat hv]
  have:=Inp.jlen h hv
  show(jn _).length<=_;omega) (I.O.idxOf v) v hv rfl p hp
 refine AA h1 (AH (by omega) ?_);have h2:=((Inp.ook h).ix hv).1;have h3:=zP3 (show I.O.idxOf v<=5 by omega);have h4:exB 5=326:=by decide
 omega
theorem Inp.wle{v e:Nat}(he:e=5216)(hv:v<I.n)(x:Rw)(i:Nat):wtL I.f I.VT I.TT x ((chV I.b v).take i)<=2^(5*e):=by
 have hn:=h.n;have h1:=wt_le (b:=I.b) (O:=I.O) (V:=I.VT) (T:=I.TT) (Inp.ook h) (λv hv=>Inp.chs h hv) (λv _=>Inp.chn v) hv e (λc hc=>Inp.tle h he (Inp.chs h hv c hc).1) x i;have h2:=((Inp.ook h).ix hv).1;grind [AA,AH,AV]
theorem Inp.bal:Bal I.b I.VT I.TT where
 n:=by have:=h.n;show I.n<=_;omega
 f:=h.f
 d:=h.d
 L:=by simp
 R:=by simp
 E:=rfl
 P:=h.P
 P2:=h.P2
 P3:=h.P3
 A:=by have:=h.A;show I.A.length<=_;omega
 Av a ha:=by
  obtain⟨h1,h2⟩:=zVk h.V a ha
  have h3:=zJv (n:=I.n) 0 h1 λw hw=>⟨Nat.zero_le _,h2 w hw⟩
  have hn:=h.n
  exact⟨by omega,λv hv=>by have:=h2 v hv;omega,Inp.rows10 h a ha⟩
 k c hc:=by
  obtain⟨v,hv,rfl⟩:=Ao.1 hc
  exact(Inp.bok h).k v
 V v hv:=by
  have hv:v<I.n:=hv
  have hn:=h.n
  rw[show I.b.R=I.R from rfl,Inp.Rat hv]
  obtain⟨h1,h2⟩:=Inp.mem_len h hv
  exact⟨by show(zBb _).length<=_;omega,h1,λu hu=>by have:=Inp.bits_n h hv ((Inp.memn h hv).1 hu);omega⟩
 r v hv x hx:=by
  have hv:v<I.n:=hv
  rw[show I.b.R=I.R from rfl,Inp.Rat hv]at hx⊢
  obtain⟨h1,h2⟩:=Inp.jall h hv x hx
  exact⟨h1,λu hu=>(h2 u hu).2,AD.2 λu hu=>(h2 u hu).1⟩
 rl v hv:=by
  have hv:v<I.n:=hv
  rw[show I.b.R=I.R from rfl,Inp.Rat hv]
  have:=Inp.jlen h hv
  show(jn _).length<=_
  omega
 S v hv x hx i hi:=by
  obtain⟨e,he⟩:∃e,e=5216:=⟨_,rfl⟩
  exact Aw (Inp.wle h he hv x i) (by omega)
 S1 v hv p hp:=by
  obtain⟨e,he⟩:∃e,e=5216:=⟨_,rfl⟩
  exact Aw (Inp.tle h he hv p hp) (by omega)
 T v hv:=by
  have hv:v<I.n:=hv
  obtain⟨e,he⟩:∃e,e=5216:=⟨_,rfl⟩
  have h1:=zSr (w:=λx=>wtL I.b.f I.VT I.TT x (chV I.b v)) (M:=2^(5*e)) (I.b.R.getD v Ak).2 λx _=>by
   have h1:=Inp.wle h he hv x (chV I.b v).length
   rwa[AW]at h1
  have h3:(I.b.R.getD v Ak).2.length<=2^16:=by
   rw[show I.b.R=I.R from rfl,Inp.Rat hv]
   have:=Inp.jlen h hv
   show(jn _).length<=_
   omega
  refine Aw (e:=16+5*e) (AA h1 ?_) (by omega)
  rw[Nat.pow_add]
  exact AV _ h3
 Rt i hi:=by
  have hi:i<=I.n:=hi
  have hn:=h.n
  obtain⟨e,he⟩:∃e,e=5216:=⟨_,rfl⟩
  have h1:=zTo (two_pow_pos e) ((As i).map (rone I.b.L I.b.f I.VT I.TT)) 1 λy hy=>by
   obtain⟨c,hc,rfl⟩:=Ao.1 hy
   have hc:=Az.1 hc
   unfold rone
   split
   ·exact two_pow_pos _
   split
   ·cases e2:tlk (I.TT c) []with
    |none=>simp
    |some w=>
     unfold tlk at e2
     obtain⟨q,q1,q2⟩:=Option.map_eq_some_iff.1 e2
     rw[AX,<-q2]
     exact Inp.tle h he (by omega) q (List.mem_of_find?_eq_some q1)
   split
   ·exact Nat.zero_le _
   exact two_pow_pos _
  rw[Nat.one_mul,<-Nat.pow_mul,AL,List.length_range]at h1
  refine Aw (e:=e*i) h1 ?_
  have:e*i<=e*6:=Nat.mul_le_mul_left _ (by omega)
  omega
 vt v _ hv:=(Inp.teq h hv).1
 tt v hv:=(Inp.teq h (by have:=h.f;have hv:v<I.f:=hv;omega)).2
 o1 i hi c hc:=by
  have hi:i<I.P.length:=hi
  have h1:=h.P2 _ (zB0 I.P i hi)
  obtain⟨h2,h3⟩:=Inp.chs h h1.2 c hc
  rw[Inp.ixP h hi]at h3
  exact Inp.take h h2 h3 (by omega)
 o2 v hv c hc hcf:=by
  have hv:v<I.f:=hv
  have hcf:c.1<I.f:=hcf
  have hf:=h.f
  obtain⟨h2,h3⟩:=Inp.chs h (show v<I.n by omega) c hc
  rw[Inp.ixF h hv,Inp.ixF h hcf]at h3
  omega
end
abbrev Inp.tot(I:Inp):Nat:=totB I.b I.VT I.TT
abbrev Inp.U(I:Inp)(c:Nat):List Bu:=if I.tot=0 then[]else buk I.b I.VT I.TT c
abbrev Inp.ix(I:Inp):D:=ixD I.desc (I.L.take I.f) I.U I.tot
section
variable {I : Inp} (h : I.Ok)
include h
theorem Inp.bags_c:Pure Af 31 [.agg [iD (I.n:Nat), .row (I.E.map u32D) I.E.length],iD (I.f:Nat), .row (nsD I.P) I.P.length] [] (.tup [.row (I.L.flatMap bgC) I.L.length,iD 0]):=by
 have hn:=h.n;have h1:=ebags_c I.n I.f (by omega) I.E (by rw[AL];have:=h.A;omega) (Inp.Elt h) I.P h.P h.P2 h.P3 I.nb rfl;grind [AQ]
theorem Inp.mat{v:Nat}(hv:v<I.n):∃z:Nat,z<=big/\Pure Af 72 [iD (I.n:Nat),u32D (bgS (I.bag v)), .row (I.A.flatMap atR) I.A.length] [] (.tup [.agg (atR (matA I.A (I.bag v))),iD ((stpA (bgS (I.bag v)) I.A+z+(jn (mkP (bgS (I.bag v)) I.A)).length:Nat):Int),iD 0]):=by
 have hn:=h.n;have hA:=h.A;obtain⟨s1,s2⟩:=Inp.s32 h hv;obtain⟨m1,m2⟩:=Inp.mem_len h hv;have hj:=Inp.jlen h hv;exact mat_c I.n (bgS (I.bag v)) I.A (by omega) s1 s2 (by omega) h.V (Inp.rows10 h) (λa ha r hr=>⟨((h.R a ha).2.2 r hr).1,AD.2 λu hu=>(((h.R a ha).2.2 r hr).2 u hu).1⟩) m1 16 (λa ha=>by have:=(h.R a ha).1;omega) (cE_ok ⟨I.A.length,by omega⟩ ⟨_,by omega⟩) (by omega)
theorem Inp.stp{v:Nat}:stpA (bgS (I.bag v)) I.A<=50:=by
 have h1:=zN3 (s:=bgS (I.bag v)) (B:=10) (A:=I.A) λa ha=>(h.R a ha).1;have h2:=h.A;omega
theorem Inp.all:∃S:Nat,S+zDm I.R<=1000000000000000000/\Pure Af 32 [iD (I.n:Nat), .row (I.L.flatMap bgC) I.L.length, .row (I.A.flatMap atR) I.A.length] [] (.tup [.row (I.R.flatMap atR) I.R.length,iD ((S:Nat):Int),iD 0]):=by
 have hn:=h.n;let z:Bg->Nat:=λb=>if hb:b.v<I.n then AY (Inp.mat h hb)else 0
 have hzb:∀v (hv:v<I.n),z (I.bag v)=AY (Inp.mat h hv):=λv hv=>by
  show(if hb:(I.bag v).v<I.n then AY (Inp.mat h hb)else 0)=_;rw[dif_pos (show(I.bag v).v<I.n from hv)];rfl
 have hz1:∀b,z b<=big:=λb=>by
  grind
 have hL:∀b∈I.L,∃v,v<I.n/\b=I.bag v:=λb hb=>by
  grind
 have hsum:∀l:List Bg,(∀b∈l,b∈I.L)->totS I.A z l<=l.length*(big+5050)/\zDm (l.map (matA I.A))<=l.length*5000:=λl=>by
  induction l with
  |nil=>intro _;simp[totS,zDm]
  |cons b l ih=>
   intro hl;obtain⟨i1,i2⟩:=ih λc hc=>hl c (List.mem_cons_of_mem _ hc);obtain⟨v,hv,rfl⟩:=hL b (hl b (List.mem_cons_self ..));have h1:=Inp.stp h (v:=v);have h2:=hz1 (I.bag v);have h3:=Inp.jlen h hv;have e1:totS I.A z (I.bag v::l)=(stpA (bgS (I.bag v)) I.A+z (I.bag v)+(jn (mkP (bgS (I.bag v)) I.A)).length)+totS I.A z l:=by simp[totS]
   have e2:zDm ((I.bag v::l).map (matA I.A))=(jn (mkP (bgS (I.bag v)) I.A)).length+zDm (l.map (matA I.A)):=by simp[zDm]
   grind
 have hLl:I.L.length=I.n:=by simp
 have hbig:big=100000000000000000:=rfl;have hall:=all_c I.n I.L I.A z (by omega) (λb hb=>by
  obtain⟨v,hv,rfl⟩:=hL b hb;exact⟨by show v<32;omega,(Inp.bok h).k v⟩) (λb hb=>by
  obtain⟨v,hv,rfl⟩:=hL b hb;rw[hzb v hv];exact(Classical.choose_spec (Inp.mat h hv)).2) (λi hi=>by
  have:=(hsum (I.L.take i) λb hb=>List.mem_of_mem_take hb).1
  refine AA this ?_;have h2:(I.L.take i).length*(big+5050)<=6*(big+5050):=AV _ (by rw[List.length_take];omega);omega)
 obtain⟨q1,q2⟩:=hsum I.L λb hb=>hb;refine⟨totS I.A z I.L,?_,?_⟩
 ·grind
 simp_all [Pure,matA,atR,AL,AQ]
theorem Inp.build(hck:Pure Af 16 [inpN I.b] [] (iD 0)):∃S:Nat,S+zDm I.R<=1000000000000000000/\Pure Af 32 [iD (I.n:Nat), .row (I.L.flatMap bgC) I.L.length, .row (I.A.flatMap atR) I.A.length] [] (.tup [.row (I.R.flatMap atR) I.R.length,iD ((S:Nat):Int),iD 0])/\
  Pure Af 15 [inpN I.b] [] (.tup [I.ix,iD ((S+zDm I.R:Nat):Int),iD 0]):=by
 obtain⟨S,h1,h2⟩:=Inp.all h;exact⟨S,h1,h2,build_c I.b I.VT I.TT S (Inp.bal h) hck (Inp.bags_c h) h2 (AA h1 (by omega))⟩
end
section
attribute [local irreducible] seqW awp zAf zAn zAd Weak updS zAv retL Pure Acts rP setP setQ cP nP fr
set_option maxRecDepth 4096
def rofA(ar:Nat)(rows:List Rw):Int:=if 32<ar then 3 else rofE (ar:Nat) rows
theorem zV5(ar:Nat)(rows:List Rw)(n:Nat)(hn:rows.length=n)(hb:n<=2000000)(hl:∀r∈rows,r.length<=2000000):Pure Af 48 [iD (ar:Nat), .row (rows.map rowV) n] [] (if rofA ar rows=0 then .tup [relD (ar:Nat) (relR rows),iD 0]else .tup [relZ,iD (rofA ar rows)]):=by
 by_cases h:32<ar
 ·unfold rofA;rw[if_pos h,if_neg (by decide)];have hnew:=newBad_c (ar:Nat) (.inr (by omega));refine zF zA5 mixed Tryz.func48 rfl ?_;focus
   refine vAu<|vA<|vrT 1<|vc hnew<|ve (0<2/\1<2/\Ab=Ab/\Ad=Ad/\2=2/\2<=2)<|zA<|vAe<|vt ?_;refine vA<|ve ((True/\Ad=Ad)/\Ab=Ab/\Ad=Ad/\2=2/\2<=2)<|zE<|zG<|vret (2<=2)<|.inr rfl
 grind [rofA,zV6]
structure Cs where
 n:Int
 f:Int
 desc:List Bool
 P:List Int
 V:List (List Int)
 R:List (List Rw)
abbrev zAr(l:List Int):D:= .row (l.map λz=>iD z) l.length
abbrev zC0(l:List Rw):D:= .row (l.map rowV) l.length
abbrev csC(c:Cs):List D:=[iD c.n,iD c.f, .row (c.desc.map bD) c.desc.length,zAr c.P, .row (c.V.map zAr) c.V.length, .row (c.R.map zC0) c.R.length]
abbrev csB(c:Cs):Bk:=⟨csC c,27,0,Ab,Ab, .plain⟩
structure Cs.Small(c:Cs):Prop where
 d:c.desc.length<=2000000
 P:c.P.length<=2000000
 V:c.V.length<=2000000
 R:c.R.length<=2000000
 v:∀l∈c.V,l.length<=2000000
 r:∀l∈c.R,l.length<=2000000/\∀x∈l,x.length<=2000000
def Cs.at(c:Cs)(i:Nat):At:=⟨c.V.getD i [],((c.V.getD i []).length:Nat),relR (c.R.getD i [])⟩
def Cs.ats(c:Cs)(m:Nat):List At:=(As m).map c.at
def Cs.err(c:Cs)(i:Nat):Int:=rofA (c.V.getD i []).length (c.R.getD i [])
abbrev inpK(c:Cs)(x:D):Bk:=⟨[iD c.n,iD c.f, .row (c.desc.map bD) c.desc.length,zAr c.P,x],31,0,Ab,Ab, .plain⟩
abbrev atsB(l:List At):Bk:=⟨l.flatMap atC,87,3,Ad,Ab, .plain⟩
abbrev inpZ:Bk:=⟨[iD 0,iD 0,nl0,nl0,nl0],31,0,Ab,Ab, .plain⟩
theorem Cs.ats_succ(c:Cs)(i:Nat):c.ats (i+1)=c.ats i++[c.at i]:=by
 grind [Cs.ats,AR]
theorem Cs.ats_len(c:Cs)(i:Nat):(c.ats i).length=i:=by simp[Cs.ats]
abbrev q40_(x0:Cs):=Ah (Ae bD (Cs.desc x0)) (Aa (Cs.desc x0))
abbrev q41_(x0:Cs):=Ah (Ae zAr (Cs.V x0)) (Aa (Cs.V x0))
abbrev q42_(x0:Cs):=Ah (Ae zC0 (Cs.R x0)) (Aa (Cs.R x0))
theorem make_c(c:Cs)(h:c.Small):∃(m:Nat)(ok:Bool),m<=c.V.length/\m<=c.R.length/\(ok=Ad↔c.V.length=c.R.length/\∀i,i<c.V.length->c.err i=0)/\(ok=Ad->m=c.V.length)/\
  Pure Af 12 [.agg (csC c)] [] (.tup [inpD c.n c.f c.desc c.P (c.ats m),bD ok]):=by
 obtain⟨m,hm1,hm2,hgood,hend⟩:∃m,m<=c.V.length/\m<=c.R.length/\(∀j,j<m->c.err j=0)/\((m=min c.V.length c.R.length)\/(m<c.V.length/\m<c.R.length/\c.err m≠0)):=by
  by_cases hb:∃p,p<min c.V.length c.R.length/\decide (c.err p≠0)=Ad
  ·obtain⟨p,hp,hpb,hmin⟩:=zD1 (p:=λi=>decide (c.err i≠0)) hb;grind
  refine⟨min c.V.length c.R.length,by omega,by omega,λj hj=>?_, .inl rfl⟩;grind
 have hV:∀i,i<c.V.length->((c.V.map zAr).drop i).headD .unk=zAr (c.V.getD i []):=λi hi=>zBc zAr c.V [] i hi;have hR:∀i,i<c.R.length->((c.R.map zC0).drop i).headD .unk=zC0 (c.R.getD i []):=λi hi=>zBc zC0 c.R [] i hi;have hVn:0<c.V.length->c.V.map zAr≠[]:=λh=>zAm h;have hRn:0<c.R.length->c.R.map zC0≠[]:=λh=>zAm h;have hlV:=h.V;have hlR:=h.R;have hac:∀i,((c.ats i).flatMap atC).length=i*3:=λi=>by rw[zDi (c:=3) (λ_=>rfl),Cs.ats_len]
 have htk:∀i,((c.ats i).flatMap atC).take (i*3)=(c.ats i).flatMap atC:=λi=>List.take_of_length_le (by rw[hac];exact Ax _);refine⟨m,decide (m=c.V.length/\c.V.length=c.R.length),hm1,hm2,?_,λhh=>(of_decide_eq_true hh).1,?_⟩
 ·grind
 rw[show inpD c.n c.f c.desc c.P (c.ats m)= .agg [iD c.n,iD c.f, .row (c.desc.map bD) c.desc.length,zAr c.P, .row ((c.ats m).flatMap atC) m]from congrArg (λk=>An [iD c.n,iD c.f, .row (c.desc.map bD) c.desc.length,zAr c.P, .row ((c.ats m).flatMap atC) k]) (Cs.ats_len c m)];refine zF zA5 mixed Tryz.func12 rfl ?_;focus
  refine vAu<|vA<|vr 11 (True/\0<6/\True/\0<5/\True/\0<4/\True/\0<3/\((1=1/\1<=5/\1=1/\2<=5/\1=1/\3<=5/\1=1/\4<=5/\True)/\Ad=Ad)/\Ab=Ab/\Ad=Ad/\5=5/\5<=5)<|vnil<|zC<|vnn (fr 69 [(1,Ai 0 0),(2,Ai 1 0),(3,bD Ab),(4,Ai 2 0),(8,Ai 0 0),(9,iD<|Cs.n c),(10,Ai 0 1),(11,iD<|Cs.f c),(12,Ai 0 2),(13,(q40_ c)),(14,Ai 0 3),(15,Ah (Ae (λ(z:Int)=>iD z)<|Cs.P c)<|Aa<|Cs.P c),(16,An [iD<|Cs.n c,iD<|Cs.f c,(q40_ c),Ah (Ae (λ(z:Int)=>iD z)<|Cs.P c)<|Aa<|Cs.P c,nl])]) [Bk.mk [iD<|Cs.n c,iD<|Cs.f c,(q40_ c),Ah (Ae (λ(z:Int)=>iD z)<|Cs.P c)<|Aa<|Cs.P c,(q41_ c),(q42_ c)] 27 0 Ab Ab AE,Bk.mk [iD 0,iD 0,nl,nl,nl] 31 0 Ab Ab AE,Bk.mk [iD<|Cs.n c,iD<|Cs.f c,(q40_ c),Ah (Ae (λ(z:Int)=>iD z)<|Cs.P c)<|Aa<|Cs.P c,nl] 31 0 Ab Ab AE] ?_;rotate_left
 refine zB7 (Weak.nilC (j:=2) (i:=4) (ej:=inpK c nl0) (atsB []) rfl rfl rfl rfl) ?_;focus
  refine zA<|vAu<|zH ?_;rotate_left
 refine zK (λ(i:Nat)=>fr 69 [(1,Ai 0 0),(2,Ai 1 0),(4,Ai 2 0),(5,iD i)]) (λ(i:Nat)=>[csB c,inpZ,inpK c<|.osl 3 0 i (i*3) Ad,atsB<|c.ats i]) (λ(i:Nat)=>m-i) (λ(i:Nat)=>i<=m) 0 ?_ ?_ ?_
 ·omega
 ·refine vk 4
 intro i h1;rcases Au i m with h2|h2
 ·have hv:=hV i (by omega);have hr:=hR i (by omega);have hvn:=hVn (by omega);have hrn:=hRn (by omega);have hac1:=hac i;have hrm:c.R.getD i []∈c.R:=by rw[Ap,Am (by omega)];exact AI _
  obtain⟨r1,r2⟩:=h.r _ hrm;have hof:=zV5 (c.V.getD i []).length (c.R.getD i []) _ rfl r1 r2;have hok:rofA (c.V.getD i []).length (c.R.getD i [])=0:=hgood i h2;rw[if_pos hok]at hof;have hsu:atsB (c.ats (i+1))=⟨(c.ats i).flatMap atC++[zAr (c.V.getD i []),iD ((c.V.getD i []).length:Nat), .row ((relR (c.R.getD i [])).map rowV) (relR (c.R.getD i [])).length],87,3,Ad,Ab, .plain⟩:=by
   rw[Cs.ats_succ];show Bk.mk ((c.ats i++[c.at i]).flatMap atC) _ _ _ _ _=_;rw[<-zXd];rfl
  focus
   refine zA<|vAs<|vew [] [(5,Ad)] (True/\0<2/\decide ((i:Int)<(Aa (Cs.V c):Int))=Ad/\True/\0<1)<|vT ((i:Int)<(Aa (Cs.R c):Int))<|vKB<|zA<|vd [0,2,6,8,1,3,4,5,7,9,10,11,12,13,14,15,16,17]<|vr 6 (True/\True/\0<2/\ix ↑i (Aa (Cs.V c):Int) (Ae zAr (Cs.V c)≠[])) ?_;refine vp 35 i (Ae zAr<|Cs.V c)<|vr 1 (0<Aa (Ag i<|Ae zAr<|Cs.V c))<|vsh 36 hv<|vr 3 (0<1/\ix ↑i (Aa (Cs.R c):Int) (Ae zC0 (Cs.R c)≠[]))<|vp 41 i (Ae zC0<|Cs.R c)<|vr 1 (0<Aa (Ag i<|Ae zC0<|Cs.R c))<|vsh 42 hr<|vc hof<|ve (0<2/\1<2/\Ab=Ab/\Ad=Ad/\2=2/\2<=2)<|zA<|vAe<|vf ?_;refine vK<|vd [0,2,4,1,3,5,6,7,8,9,10,11,12]<|vr 6 (True/\True/\0<1/\0<2/\ix ↑i (Aa (Cs.V c):Int) (Ae zAr (Cs.V c)≠[]))<|vp 54 i (Ae zAr<|Cs.V c)<|vr 1 (0<Aa (Ag i<|Ae zAr<|Cs.V c))<|vsh 55 hv<|vr 6 (2<=2/\((1=1/\1<=3/\2=2/\3<=3/\True)/\Ad=Ad)/\((3=3/\3<=3/\True)/\0<3/\3=3/\3<=16777216/\1<=9223372036854775807)/\(Bk.arr (atsB<|Cs.ats c i)=Ad/\Aa (Bk.cells<|atsB<|Cs.ats c i)=i*3/\i*3=i*3/\Bk.ty (atsB<|Cs.ats c i)=87/\Bk.sz (atsB<|Cs.ats c i)=3/\3=3/\0<3/\0<56/\87=87/\(i+1)*56<=140737488355328/\3=3/\Kd.isMap (Bk.kd<|atsB<|Cs.ats c i)=Ab/\(Ab=Ab\/Kd.isSh (Bk.kd<|atsB<|Cs.ats c i)=Ad))/\True/\Ab=Ab/\Ad=Ad/\1=1/\5<=5)<|vnil<|zD<|vN<|zB rfl ?_;refine vr 3 (i6 (↑i+1))<|vnil<|zC ?_;rotate_left
  refine⟨i+1,by omega,by omega,?_⟩;rw[hsu];refine vk 4
 obtain rfl:i=m:=by omega
 have htk1:=htk i;rcases hend with h3|⟨h3,h4,h5⟩
 ·have hb:decide (i=c.V.length/\c.V.length=c.R.length)=((c.V.length:Int)==(c.R.length:Int)):=by
   grind
  rw[hb];focus
   refine zA<|vAs<|vr 6 (True/\0<2) ?_;refine vsp 22 (decide ((i:Int)<(Aa (Cs.V c):Int))) (λhc=>?_)<|λhc=>?_;simp only[decide_eq_true_eq]at hc;refine ve (True/\0<1)<|vF ((i:Int)<(Aa (Cs.R c):Int))<|vZ2<|zA ?_;refine zA6 [1,4,0,2,3,5,6,7] [(8,[(2,100000),(3,100000),(5,100000),(6,100000),(7,100000)],[9])] rfl ?_;refine vr 8 (True/\True/\5<=5/\0<2/\0<1/\True)<|vnil<|zBy rfl rfl (by kernel_rfl)<|vr 1 (Ab=Ab/\Ad=Ad/\5=5/\5<=5)<|vnil ?_;refine zE1 (C:=0<2/\Aj ((q41_ c))=Aj (AS [(q41_ c),(q42_ c)] Uk)/\True/\Aj (iD (Aa (Cs.V c):Int))=Aj (iD (Aa (Cs.V c):Int))/\0<1/\Aj ((q42_ c))=Aj (AS [(q42_ c)] Uk)/\True/\Aj (iD (Aa (Cs.R c):Int))=Aj (iD (Aa (Cs.R c):Int))/\True/\Aj (bD ((Aa (Cs.V c):Int)==(Aa (Cs.R c):Int)))=Aj (bD ((Aa (Cs.V c):Int)==(Aa (Cs.R c):Int)))) ⟨(by omega),(by kernel_rfl),trivial,(by kernel_rfl),(by omega),(by kernel_rfl),trivial,(by kernel_rfl),trivial,(by kernel_rfl)⟩ ?_;refine vrT 1<|vnil<|zBt<|vN<|zE ?_;refine zCc (5<=5) (D.tup [An [iD<|Cs.n c,iD<|Cs.f c,Ah (Ae bD<|Cs.desc c)<|Aa<|Cs.desc c,Ah (Ae (λ(z:Int)=>iD z)<|Cs.P c)<|Aa<|Cs.P c,Ah (AM (i*3)<|Ag 0<|Bk.cells<|atsB<|Cs.ats c i) i],bD ((Aa (Cs.V c):Int)==(Aa (Cs.R c):Int))]) (D.tup [An [Al<|Aq AB<|Cs.n c,Al<|Aq AB<|Cs.f c,Ah (Ae bD<|Cs.desc c)<|Aa<|Cs.desc c,Ah (Ae (λ(z:Int)=>iD z)<|Cs.P c)<|Aa<|Cs.P c,Ah (Ay atC<|Cs.ats c i) i],Al<|AF ((Aa (Cs.V c):Int)==(Aa (Cs.R c):Int))]) (.inr rfl) (by omega) (by simp(disch:=omega) only[AN,htk1]) rfl;simp only[decide_eq_false_iff_not]at hc;refine veT<|vf<|vZ2<|zA ?_;refine zA6 [1,4,0,2,3,5,6,7] [(8,[(2,100000),(3,100000),(5,100000),(6,100000),(7,100000)],[9])] rfl ?_;refine vr 8 (True/\True/\5<=5/\0<2/\0<1/\True)<|vnil<|zBy rfl rfl (by kernel_rfl)<|vr 1 (Ab=Ab/\Ad=Ad/\5=5/\5<=5)<|vnil ?_;refine zE1 (C:=0<2/\Aj ((q41_ c))=Aj (AS [(q41_ c),(q42_ c)] Uk)/\True/\Aj (iD (Aa (Cs.V c):Int))=Aj (iD (Aa (Cs.V c):Int))/\0<1/\Aj ((q42_ c))=Aj (AS [(q42_ c)] Uk)/\True/\Aj (iD (Aa (Cs.R c):Int))=Aj (iD (Aa (Cs.R c):Int))/\True/\Aj (bD ((Aa (Cs.V c):Int)==(Aa (Cs.R c):Int)))=Aj (bD ((Aa (Cs.V c):Int)==(Aa (Cs.R c):Int)))) ⟨(by omega),(by kernel_rfl),trivial,(by kernel_rfl),(by omega),(by kernel_rfl),trivial,(by kernel_rfl),trivial,(by kernel_rfl)⟩ ?_;refine vrT 1<|vnil<|zBt<|vN<|zE ?_;refine zCc (5<=5) (D.tup [An [iD<|Cs.n c,iD<|Cs.f c,Ah (Ae bD<|Cs.desc c)<|Aa<|Cs.desc c,Ah (Ae (λ(z:Int)=>iD z)<|Cs.P c)<|Aa<|Cs.P c,Ah (AM (i*3)<|Ag 0<|Bk.cells<|atsB<|Cs.ats c i) i],bD ((Aa (Cs.V c):Int)==(Aa (Cs.R c):Int))]) (D.tup [An [Al<|Aq AB<|Cs.n c,Al<|Aq AB<|Cs.f c,Ah (Ae bD<|Cs.desc c)<|Aa<|Cs.desc c,Ah (Ae (λ(z:Int)=>iD z)<|Cs.P c)<|Aa<|Cs.P c,Ah (Ay atC<|Cs.ats c i) i],Al<|AF ((Aa (Cs.V c):Int)==(Aa (Cs.R c):Int))]) (.inr rfl) (by omega) (by simp(disch:=omega) only[AN,htk1]) rfl
 have hb:decide (i=c.V.length/\c.V.length=c.R.length)=false:=decide_eq_false (by omega);rw[hb];have hv:=hV i (by omega);have hr:=hR i (by omega);have hvn:=hVn (by omega);have hrn:=hRn (by omega);have hrm:c.R.getD i []∈c.R:=by rw[Ap,Am (by omega)];exact AI _
 obtain⟨r1,r2⟩:=h.r _ hrm;have hof:=zV5 (c.V.getD i []).length (c.R.getD i []) _ rfl r1 r2;have hbad:¬rofA (c.V.getD i []).length (c.R.getD i [])=0:=h5;rw[if_neg hbad]at hof;generalize rofA (c.V.getD i []).length (c.R.getD i [])=e at*;focus
  refine zA<|vAs<|vew [] [(5,Ad)] (True/\0<2/\decide ((i:Int)<(Aa (Cs.V c):Int))=Ad/\True/\0<1)<|vT ((i:Int)<(Aa (Cs.R c):Int))<|vKB<|zA<|vd [0,2,6,8,1,3,4,5,7,9,10,11,12,13,14,15,16,17]<|vr 6 (True/\True/\0<2/\ix ↑i (Aa (Cs.V c):Int) (Ae zAr (Cs.V c)≠[])) ?_;refine vp 35 i (Ae zAr<|Cs.V c)<|vr 1 (0<Aa (Ag i<|Ae zAr<|Cs.V c))<|vsh 36 hv<|vr 3 (0<1/\ix ↑i (Aa (Cs.R c):Int) (Ae zC0 (Cs.R c)≠[]))<|vp 41 i (Ae zC0<|Cs.R c)<|vr 1 (0<Aa (Ag i<|Ae zC0<|Cs.R c))<|vsh 42 hr<|vc hof<|ve (0<2/\1<2/\Ab=Ab/\Ad=Ad/\2=2/\2<=2)<|zA<|vAe<|zEu (t:=e !=(0:Int)) (by kernel_rfl) (by simpa using by omega) ?_;refine vA<|ve (5<=5/\Ab=Ab/\Ad=Ad/\5=5/\5<=5)<|zE<|zG<|zL<|zG<|zG<|zL<|zG ?_;refine zCc (5<=5) (D.tup [An [iD<|Cs.n c,iD<|Cs.f c,Ah (Ae bD<|Cs.desc c)<|Aa<|Cs.desc c,Ah (Ae (λ(z:Int)=>iD z)<|Cs.P c)<|Aa<|Cs.P c,Ah (AM (i*3)<|Ag 0<|Bk.cells<|atsB<|Cs.ats c i) i],bD Ab]) (D.tup [An [Al<|Aq AB<|Cs.n c,Al<|Aq AB<|Cs.f c,Ah (Ae bD<|Cs.desc c)<|Aa<|Cs.desc c,Ah (Ae (λ(z:Int)=>iD z)<|Cs.P c)<|Aa<|Cs.P c,Ah (Ay atC<|Cs.ats c i) i],Al<|AF Ab]) (.inr rfl) (by omega) (by simp(disch:=omega) only[AN,htk1]) rfl
structure Cs.Few(c:Cs):Prop where
 R:c.R.length<=5
 V:c.V.length<=5
 d:c.desc.length<=10
 P:c.P.length<=10
 n:c.n<=6\/32<c.n
 r:∀l∈c.R,l.length<=10
 v:∀l∈c.V,l.length<=8
 C:(c.R.map λl=>max 1 l.length).foldl (· *·) 1<=5000
def mny(L:List (List Rw))(i:Nat):Nat:=((L.take i).map λl=>max 1 l.length).foldl (· *·) 1
theorem zWp(L:List (List Rw))(i:Nat)(h:i<L.length):mny L (i+1)=mny L i*max 1 (L.getD i []).length:=by
 grind [mny,List.take_succ_eq_append_getElem,Am]
theorem few_c(c:Cs)(h:c.Small):∃b:Bool,(b=Ad->c.Few)/\Pure Af 13 [.agg (csC c)] [] (bD b):=by
 have hV:∀i,i<c.V.length->((c.V.map zAr).drop i).headD .unk=zAr (c.V.getD i []):=λi hi=>zBc zAr c.V [] i hi;have hR:∀i,i<c.R.length->((c.R.map zC0).drop i).headD .unk=zC0 (c.R.getD i []):=λi hi=>zBc zC0 c.R [] i hi;have hVn:0<c.V.length->c.V.map zAr≠[]:=λh=>zAm h;have hRn:0<c.R.length->c.R.map zC0≠[]:=λh=>zAm h;have hlV:=h.V;have hlR:=h.R;have hld:=h.d;have hlP:=h.P;obtain⟨m1,m2,hm1,hg1,hm2,hg2,hend⟩:∃m1 m2,m1<=min c.R.length 6/\(∀j,j<m1->(c.R.getD j []).length<=10)/\m2<=min c.V.length 6/\(∀j,j<m2->(c.V.getD j []).length<=8)/\((m1<min c.R.length 6/\10<(c.R.getD m1 []).length)\/(m1=min c.R.length 6/\(m2<min c.V.length 6/\8<(c.V.getD m2 []).length\/m2=min c.V.length 6))):=by
  by_cases h1:∃p,p<min c.R.length 6/\decide (10<(c.R.getD p []).length)=Ad
  ·obtain⟨p,hp,hpb,hmin⟩:=zD1 (p:=λi=>decide (10<(c.R.getD i []).length)) h1;refine⟨p,0,by omega,λj hj=>?_,Nat.zero_le _,λj hj=>by omega, .inl ⟨hp,by simpa using hpb⟩⟩;grind
  have hall:∀j,j<min c.R.length 6->(c.R.getD j []).length<=10:=λj hj=>AZ λhh=>h1 ⟨j,hj,decide_eq_true (by omega)⟩;by_cases h2:∃p,p<min c.V.length 6/\decide (8<(c.V.getD p []).length)=Ad
  ·obtain⟨p,hp,hpb,hmin⟩:=zD1 (p:=λi=>decide (8<(c.V.getD i []).length)) h2;refine⟨_,p,Ax _,hall,by omega,λj hj=>?_, .inr ⟨rfl, .inl ⟨hp,by simpa using hpb⟩⟩⟩;grind
  exact⟨_,_,Ax _,hall,Ax _,λj hj=>AZ λhh=>h2 ⟨j,hj,decide_eq_true (by omega)⟩, .inr ⟨rfl, .inr rfl⟩⟩
 have hmb:∀i,i<=m1->mny c.R i<=10^i:=λi=>by
  induction i with
  |zero=>intro _;exact Ax _
  |succ i ih=>
   intro hi;rw[zWp c.R i (by omega),Nat.pow_succ];exact Nat.mul_le_mul (ih (by omega)) (by have:=hg1 i (by omega);omega)
 have hm6:∀i,i<=m1->mny c.R i<=1000000:=λi hi=>AA (hmb i hi) (show 10^i<=10^6 from AH (by omega) (by omega));have hone:mny c.R 0=1:=rfl;refine⟨decide (m1=min c.R.length 6/\mny c.R m1<=5000/\m2=min c.V.length 6/\c.R.length<=5/\c.V.length<=5/\c.desc.length<=10/\c.P.length<=10/\(c.n<=6\/32<c.n)),λhb=>?_,?_⟩
 ·obtain⟨b1,b2,b3,b4,b5,b6,b7,b8⟩:=of_decide_eq_true hb;refine⟨b4,b5,b6,b7,b8,λl hl=>?_,λl hl=>?_,?_⟩;all_goals grind [A0,Am,mny,AW]
 refine zF zA5 mixed Tryz.func13 rfl ?_;focus
  refine vAu<|vAe<|zA<|vAe<|zH ?_;rotate_left
 refine zK (λ(i:Nat)=>fr 85 [(1,Ai 0 0),(3,iD (↑(mny (Cs.R c) i):Int)),(4,iD i)]) (λ(i:Nat)=>[csB c]) (λ(i:Nat)=>m1-i) (λ(i:Nat)=>i<=m1) 0 ?_ ?_ ?_
 ·omega
 ·rw[hone];refine vk 1
 intro i h1;rcases Au i m1 with h2|h2
 ·have hr:=hR i (by omega);have hrn:=hRn (by omega);have hg:=hg1 i h2;have hsu:=zWp c.R i (by omega);have hmi:=hm6 i h1;have hmi2:=hm6 (i+1) (by omega);generalize c.R.getD i []=l at*;have hmx:(if((l.length:Nat):Int)>1 then((l.length:Nat):Int)else 1)=((max 1 l.length:Nat):Int):=by
   split<;>omega
  rw[hsu]at hmi2;focus
   refine zA<|vAs<|vew [] [(5,Ad)] (True/\0<1/\decide ((i:Int)<(Aa (Cs.R c):Int))=Ad)<|vT ((i:Int)<(6:Int))<|vKB<|zA<|vA ?_;refine vr 4 (True/\0<1/\ix ↑i (Aa (Cs.R c):Int) (Ae zC0 (Cs.R c)≠[]))<|vp 20 i (Ae zC0<|Cs.R c)<|vr 1 (0<Aa (Ag i<|Ae zC0<|Cs.R c))<|vsh 21 hr<|veT<|vF ((Aa l:Int)>(10:Int))<|vK<|zB rfl<|vr 5 (True/\0<1/\ix ↑i (Aa (Cs.R c):Int) (Ae zC0 (Cs.R c)≠[]))<|vp 28 i (Ae zC0<|Cs.R c)<|vr 1 (0<Aa (Ag i<|Ae zC0<|Cs.R c))<|vsh 29 hr ?_;refine vrT 2<|vs 31 (iD (if(Aa l:Int)>(1:Int)then(Aa l:Int)else(1:Int))) (iD (↑(max 1<|Aa l):Int)) (by simp(disch:=omega) only[hmx])<|vr 2 (i6 ((↑(mny (Cs.R c) i):Int)*(↑(max 1<|Aa l):Int)))<|vnil<|zD<|vN<|zB rfl<|vr 3 (i6 (↑i+1))<|vnil<|zC ?_;rotate_left
  refine⟨i+1,by omega,by omega,?_⟩;rw[hsu,Int.natCast_mul];refine vk 1
 obtain rfl:i=m1:=by omega
 rcases hend with⟨h3,h4⟩|⟨h3,h4⟩
 ·rw[decide_eq_false (by omega)];have hr:=hR i (by omega);have hrn:=hRn (by omega);generalize c.R.getD i []=l at*;focus
   refine zA<|vAs<|vew [] [(5,Ad)] (True/\0<1/\decide ((i:Int)<(Aa (Cs.R c):Int))=Ad)<|vT ((i:Int)<(6:Int))<|vKB<|zA<|vA ?_;refine vr 4 (True/\0<1/\ix ↑i (Aa (Cs.R c):Int) (Ae zC0 (Cs.R c)≠[]))<|vp 20 i (Ae zC0<|Cs.R c)<|vr 1 (0<Aa (Ag i<|Ae zC0<|Cs.R c))<|vsh 21 hr<|veT<|vT ((Aa l:Int)>(10:Int))<|vAe<|zE<|zG<|zL<|zG<|zG ?_;refine zL<|zG<|vret (True)<|.inr rfl
 have hmi:=hm6 i (Ax _);generalize hmn:mny c.R i=mn at*;by_cases hm5:mn<=5000
 ·by_cases hcR:i<c.R.length
  ·focus
    refine zA<|vAs<|vew [] [(5,Ad)] (True/\0<1/\decide ((i:Int)<(Aa (Cs.R c):Int))=Ad)<|vF ((i:Int)<(6:Int))<|vZ2<|zA<|zA ?_;refine zB rfl<|veT<|vF ((mn:Int)>(5000:Int))<|vK<|zA<|vAe<|zH ?_;rotate_left
   refine zK (λ(j:Nat)=>fr 85 [(1,Ai 0 0),(5,iD j)]) (λ(j:Nat)=>[csB c]) (λ(j:Nat)=>m2-j) (λ(j:Nat)=>j<=m2) 0 ?_ ?_ ?_
   ·omega
   ·refine vk 1
   intro j h5;rcases Au j m2 with h6|h6
   ·have hv:=hV j (by omega);have hvn:=hVn (by omega);have hg:=hg2 j h6;generalize c.V.getD j []=l at*;focus
     refine zA<|vAs<|vew [] [(5,Ad)] (True/\0<2/\decide ((j:Int)<(Aa (Cs.V c):Int))=Ad)<|vT ((j:Int)<(6:Int))<|vKB<|vA<|vr 4 (True/\0<2/\ix ↑j (Aa (Cs.V c):Int) (Ae zAr (Cs.V c)≠[])) ?_;refine vp 49 j (Ae zAr<|Cs.V c)<|vr 1 (0<Aa (Ag j<|Ae zAr<|Cs.V c))<|vsh 50 hv<|veT<|vF ((Aa l:Int)>(8:Int))<|zQ<|zD<|vN<|zB rfl<|vr 3 (i6 (↑j+1))<|vnil<|zC ?_;rotate_left
    refine⟨j+1,by omega,by omega,?_⟩;refine vk 1
   obtain rfl:j=m2:=by omega
   rcases h4 with⟨h7,h8⟩|h7
   ·rw[decide_eq_false (by omega)];have hv:=hV j (by omega);have hvn:=hVn (by omega);generalize c.V.getD j []=l at*;focus
     refine zA<|vAs<|vew [] [(5,Ad)] (True/\0<2/\decide ((j:Int)<(Aa (Cs.V c):Int))=Ad)<|vT ((j:Int)<(6:Int))<|vKB<|vA<|vr 4 (True/\0<2/\ix ↑j (Aa (Cs.V c):Int) (Ae zAr (Cs.V c)≠[])) ?_;refine vp 49 j (Ae zAr<|Cs.V c)<|vr 1 (0<Aa (Ag j<|Ae zAr<|Cs.V c))<|vsh 50 hv<|veT<|vT ((Aa l:Int)>(8:Int))<|vAe<|zE<|zL<|zG<|zG<|zL<|zG ?_;refine vret (True)<|.inr rfl
   rw[decide_eq_false (by omega)];by_cases hjV:j<c.V.length
   ·focus
     refine zA<|vAs<|vew [] [(5,Ad)] (True/\0<2/\decide ((j:Int)<(Aa (Cs.V c):Int))=Ad)<|vF ((j:Int)<(6:Int))<|vZ2<|vA ?_;refine vr 4 (True/\0<6) ?_;refine vsp 56 (decide (Cs.n c<=(6:Int))) (λhc=>?_)<|λhc=>?_;simp only[decide_eq_true_eq]at hc;refine vew [] [(14,Ab)] (True/\0<2/\decide ((Aa (Cs.V c):Int)<=(5:Int))=Ab)<|zE<|vret (True)<|.inr rfl;simp only[decide_eq_false_iff_not]at hc;refine vr 5 (True/\0<6) ?_;refine vsp 61 (decide (Cs.n c>(32:Int))) (λhc=>?_)<|λhc=>?_;simp only[decide_eq_true_eq]at hc;refine vew [] [(14,Ab)] (True/\0<2/\decide ((Aa (Cs.V c):Int)<=(5:Int))=Ab)<|zE<|vret (True)<|.inr rfl;simp only[decide_eq_false_iff_not]at hc;refine veT<|zE<|vret (True)<|.inr rfl
   focus
    refine zA<|vAs<|vew [] [(5,Ab)] (True/\0<2/\decide ((j:Int)<(Aa (Cs.V c):Int))=Ab)<|vf<|vZ2<|vA ?_;refine vr 4 (True/\0<6) ?_;refine vsp 56 (decide (Cs.n c<=(6:Int))) (λhc=>?_)<|λhc=>?_;simp only[decide_eq_true_eq]at hc;refine vr 11 (True/\0<2) ?_;refine vsp 67 (decide ((Aa (Cs.V c):Int)<=(5:Int))) (λhc=>?_)<|λhc=>?_;simp only[decide_eq_true_eq]at hc;refine vew [] [(20,Ab)] (True/\0<1/\decide ((Aa (Cs.R c):Int)<=(5:Int))=Ab)<|zE<|vret (True)<|.inr rfl;simp only[decide_eq_false_iff_not]at hc;refine veT<|zE<|vret (True)<|.inr rfl;simp only[decide_eq_false_iff_not]at hc;refine vr 5 (True/\0<6) ?_;refine vsp 61 (decide (Cs.n c>(32:Int))) (λhc=>?_)<|λhc=>?_;simp only[decide_eq_true_eq]at hc;refine vr 6 (True/\0<2) ?_;refine vsp 67 (decide ((Aa (Cs.V c):Int)<=(5:Int))) (λhc=>?_)<|λhc=>?_;simp only[decide_eq_true_eq]at hc;refine vew [] [(20,Ab)] (True/\0<1/\decide ((Aa (Cs.R c):Int)<=(5:Int))=Ab)<|zE<|vret (True)<|.inr rfl;simp only[decide_eq_false_iff_not]at hc;refine veT<|zE<|vret (True)<|.inr rfl;simp only[decide_eq_false_iff_not]at hc;refine veT<|zE<|vret (True)<|.inr rfl
  focus
   refine zA<|vAs<|vew [] [(5,Ab)] (True/\0<1/\decide ((i:Int)<(Aa (Cs.R c):Int))=Ab)<|vf<|vZ2<|zA<|zA ?_;refine zB rfl<|veT<|vF ((mn:Int)>(5000:Int))<|vK<|zA<|vAe<|zH ?_;rotate_left
  refine zK (λ(j:Nat)=>fr 85 [(1,Ai 0 0),(5,iD j)]) (λ(j:Nat)=>[csB c]) (λ(j:Nat)=>m2-j) (λ(j:Nat)=>j<=m2) 0 ?_ ?_ ?_
  ·omega
  ·refine vk 1
  intro j h5;rcases Au j m2 with h6|h6
  ·have hv:=hV j (by omega);have hvn:=hVn (by omega);have hg:=hg2 j h6;generalize c.V.getD j []=l at*;focus
    refine zA<|vAs<|vew [] [(5,Ad)] (True/\0<2/\decide ((j:Int)<(Aa (Cs.V c):Int))=Ad)<|vT ((j:Int)<(6:Int))<|vKB<|vA<|vr 4 (True/\0<2/\ix ↑j (Aa (Cs.V c):Int) (Ae zAr (Cs.V c)≠[])) ?_;refine vp 49 j (Ae zAr<|Cs.V c)<|vr 1 (0<Aa (Ag j<|Ae zAr<|Cs.V c))<|vsh 50 hv<|veT<|vF ((Aa l:Int)>(8:Int))<|zQ<|zD<|vN<|zB rfl<|vr 3 (i6 (↑j+1))<|vnil<|zC ?_;rotate_left
   refine⟨j+1,by omega,by omega,?_⟩;refine vk 1
  obtain rfl:j=m2:=by omega
  rcases h4 with⟨h7,h8⟩|h7
  ·rw[decide_eq_false (by omega)];have hv:=hV j (by omega);have hvn:=hVn (by omega);generalize c.V.getD j []=l at*;focus
    refine zA<|vAs<|vew [] [(5,Ad)] (True/\0<2/\decide ((j:Int)<(Aa (Cs.V c):Int))=Ad)<|vT ((j:Int)<(6:Int))<|vKB<|vA<|vr 4 (True/\0<2/\ix ↑j (Aa (Cs.V c):Int) (Ae zAr (Cs.V c)≠[])) ?_;refine vp 49 j (Ae zAr<|Cs.V c)<|vr 1 (0<Aa (Ag j<|Ae zAr<|Cs.V c))<|vsh 50 hv<|veT<|vT ((Aa l:Int)>(8:Int))<|vAe<|zE<|zL<|zG<|zG<|zL<|zG ?_;refine vret (True)<|.inr rfl
  by_cases hjV:j<c.V.length
  ·rw[decide_eq_false (by omega)];focus
    refine zA<|vAs<|vew [] [(5,Ad)] (True/\0<2/\decide ((j:Int)<(Aa (Cs.V c):Int))=Ad)<|vF ((j:Int)<(6:Int))<|vZ2<|vA ?_;refine vr 4 (True/\0<6) ?_;refine vsp 56 (decide (Cs.n c<=(6:Int))) (λhc=>?_)<|λhc=>?_;simp only[decide_eq_true_eq]at hc;refine vew [] [(14,Ab)] (True/\0<2/\decide ((Aa (Cs.V c):Int)<=(5:Int))=Ab)<|zE<|vret (True)<|.inr rfl;simp only[decide_eq_false_iff_not]at hc;refine vr 5 (True/\0<6) ?_;refine vsp 61 (decide (Cs.n c>(32:Int))) (λhc=>?_)<|λhc=>?_;simp only[decide_eq_true_eq]at hc;refine vew [] [(14,Ab)] (True/\0<2/\decide ((Aa (Cs.V c):Int)<=(5:Int))=Ab)<|zE<|vret (True)<|.inr rfl;simp only[decide_eq_false_iff_not]at hc;refine veT<|zE<|vret (True)<|.inr rfl
  by_cases hfin:c.R.length<=5/\c.V.length<=5/\c.desc.length<=10/\c.P.length<=10/\(c.n<=6\/32<c.n)
  ·rw[decide_eq_true ⟨h3,hm5,h7,hfin⟩];obtain⟨f1,f2,f3,f4,f5⟩:=hfin;focus
    refine zA<|vAs<|vew [] [(5,Ab)] (True/\0<2/\decide ((j:Int)<(Aa (Cs.V c):Int))=Ab)<|vf<|vZ2<|vA ?_;refine vr 4 (True/\0<6) ?_;refine vsp 56 (decide (Cs.n c<=(6:Int))) (λhc=>?_)<|λhc=>?_;simp only[decide_eq_true_eq]at hc;refine vew [] [(14,Ad),(20,Ad),(26,Ad)] (True/\0<2/\decide ((Aa (Cs.V c):Int)<=(5:Int))=Ad/\True/\0<1/\decide ((Aa (Cs.R c):Int)<=(5:Int))=Ad/\True/\0<4/\decide ((Aa (Cs.desc c):Int)<=(10:Int))=Ad/\True/\0<3)<|zE ?_;refine vre (True) (Al<|AF<|decide ((Aa (Cs.P c):Int)<=(10:Int))) (.inr rfl) ?_;rotate_left;simp only[decide_eq_false_iff_not]at hc;refine vew [] [(8,Ad),(14,Ad),(20,Ad),(26,Ad)] (True/\0<6/\decide (Cs.n c>(32:Int))=Ad/\True/\0<2/\decide ((Aa (Cs.V c):Int)<=(5:Int))=Ad/\True/\0<1/\decide ((Aa (Cs.R c):Int)<=(5:Int))=Ad/\True/\0<4/\decide ((Aa (Cs.desc c):Int)<=(10:Int))=Ad/\True/\0<3)<|zE ?_;refine vre (True) (Al<|AF<|decide ((Aa (Cs.P c):Int)<=(10:Int))) (.inr rfl) ?_;rotate_left
   all_goals grind
  rw[decide_eq_false λhh=>hfin hh.2.2.2];focus
   refine zA<|vAs<|vew [] [(5,Ab)] (True/\0<2/\decide ((j:Int)<(Aa (Cs.V c):Int))=Ab)<|vf<|vZ2<|vA ?_;refine vr 4 (True/\0<6) ?_;refine vsp 56 (decide (Cs.n c<=(6:Int))) (λhc=>?_)<|λhc=>?_;simp only[decide_eq_true_eq]at hc;refine vr 11 (True/\0<2) ?_;refine vsp 67 (decide ((Aa (Cs.V c):Int)<=(5:Int))) (λhc=>?_)<|λhc=>?_;simp only[decide_eq_true_eq]at hc;refine vr 6 (True/\0<1) ?_;refine vsp 73 (decide ((Aa (Cs.R c):Int)<=(5:Int))) (λhc=>?_)<|λhc=>?_;simp only[decide_eq_true_eq]at hc;refine vr 6 (True/\0<4) ?_;refine vsp 79 (decide ((Aa (Cs.desc c):Int)<=(10:Int))) (λhc=>?_)<|λhc=>?_;simp only[decide_eq_true_eq]at hc;refine ve (True/\0<3)<|zE ?_;refine vre (True) (Al<|AF<|decide ((Aa (Cs.P c):Int)<=(10:Int))) (.inr rfl) ?_;rotate_left;simp only[decide_eq_false_iff_not]at hc;refine veT<|zE<|vret (True)<|.inr rfl;simp only[decide_eq_false_iff_not]at hc;refine veT<|zE<|vret (True)<|.inr rfl;simp only[decide_eq_false_iff_not]at hc;refine veT<|zE<|vret (True)<|.inr rfl;simp only[decide_eq_false_iff_not]at hc;refine vr 5 (True/\0<6) ?_;refine vsp 61 (decide (Cs.n c>(32:Int))) (λhc=>?_)<|λhc=>?_;simp only[decide_eq_true_eq]at hc;refine vr 6 (True/\0<2) ?_;refine vsp 67 (decide ((Aa (Cs.V c):Int)<=(5:Int))) (λhc=>?_)<|λhc=>?_;simp only[decide_eq_true_eq]at hc;refine vr 6 (True/\0<1) ?_;refine vsp 73 (decide ((Aa (Cs.R c):Int)<=(5:Int))) (λhc=>?_)<|λhc=>?_;simp only[decide_eq_true_eq]at hc;refine vr 6 (True/\0<4) ?_;refine vsp 79 (decide ((Aa (Cs.desc c):Int)<=(10:Int))) (λhc=>?_)<|λhc=>?_;simp only[decide_eq_true_eq]at hc;refine ve (True/\0<3)<|zE ?_;refine vre (True) (Al<|AF<|decide ((Aa (Cs.P c):Int)<=(10:Int))) (.inr rfl) ?_;rotate_left;simp only[decide_eq_false_iff_not]at hc;refine veT<|zE<|vret (True)<|.inr rfl;simp only[decide_eq_false_iff_not]at hc;refine veT<|zE<|vret (True)<|.inr rfl;simp only[decide_eq_false_iff_not]at hc;refine veT<|zE<|vret (True)<|.inr rfl;simp only[decide_eq_false_iff_not]at hc;refine veT<|zE<|vret (True)<|.inr rfl
  all_goals grind
 rw[decide_eq_false (by omega)];focus
  refine zA<|vAs<|vr 6 (True/\0<1) ?_;refine vsp 11 (decide ((i:Int)<(Aa (Cs.R c):Int))) (λhc=>?_)<|λhc=>?_;simp only[decide_eq_true_eq]at hc;refine veT<|vF ((i:Int)<(6:Int))<|vZ2<|zA<|vAe<|vT ((mn:Int)>(5000:Int))<|zA ?_;refine zB rfl<|veT<|zE<|zG<|vret (True)<|.inr rfl;simp only[decide_eq_false_iff_not]at hc;refine veT<|vf<|vZ2<|zA<|vAe<|vT ((mn:Int)>(5000:Int))<|zA ?_;refine zB rfl<|veT<|zE<|zG<|vret (True)<|.inr rfl
end
def Vt(v:Va):Prop:=(-9223372036854775808<=v.kind/\v.kind<=9223372036854775807)/\(-9223372036854775808<=v.int/\v.int<=9223372036854775807)
def Cs.Typ(c:Cs):Prop:=∀l∈c.R,∀x∈l,∀v∈x,Vt v
theorem Vt.vs{v:Va}(h:Vt v)(hv:vok v=Ad):Vs v:=by
 refine⟨h.1,h.2,?_⟩;unfold vok at hv;grind
def Cs.inp(c:Cs):Inp:=⟨c.n.toNat,c.f.toNat,c.desc,c.P.map Ar,(As c.V.length).map λi=>((c.V.getD i []).map Ar,relR (c.R.getD i []))⟩
theorem atE_0{n:Int}{a:At}(h:atE n a=0):ascB a.V=Ad/\a.V.all (inB n)=Ad/\(a.V.length:Int)=a.ar:=by
 grind [atE]
theorem atL_all{n:Int}:∀{L:List At},atL n L=0->∀a∈L,atE n a=0
 |[],_,a,h=>by cases h
 | b::L,h,a,ha=>by
  rw[atL]at h;split at h
  ·grind
  rename_i h1;rcases AO.1 ha with rfl|ha
  ·grind
  exact atL_all h a ha
theorem asc_of{l:List Int}(h:ascB l=Ad):l.Pairwise (· <·):=by
 have key:∀l:List Int,(∀i,0<i->i<l.length->l.getD (i-1) 0<l.getD i 0)->l.Pairwise (· <·):=by
  intro l;induction l with
  |nil=>exact λ_=>List.Pairwise.nil
  | cons a l ih=>
   intro h;have h1:l.Pairwise (· <·):=ih λi h0 hi=>by
    have:=h (i+1) (by omega) (by simpa using hi)
    grind
   refine List.pairwise_cons.2 ⟨λb hb=>?_,h1⟩;cases l with
   |nil=>cases hb
   |cons d l=>
    have h2:a<d:=by simpa using h 1 (by omega) (by simp)
    grind [List.pairwise_cons]
 refine key l λi h0 hi=>?_;have h1:=AD.1 h i (Az.2 hi);unfold zVd at h1;grind
theorem zXy{ar:Int}:∀{L:List Rw},accL ar L=0->∀x∈L,(x.length:Int)=ar/\x.all vok=Ad
 |[],_,a,h=>by cases h
 | b::L,h,a,ha=>by
  rw[accL]at h;split at h
  ·grind
  rename_i h1;rcases AO.1 ha with rfl|ha
  ·grind [accE]
  exact zXy h a ha
theorem foldl_r:∀(l:List Nat)(a:Nat),l.foldl (· *·) a=a*l.foldr (· *·) 1
 |[],a=>by simp
 |b::l,a=>by rw[List.foldl_cons,foldl_r l (a*b),List.foldr_cons,Nat.mul_assoc]
section
variable {c : Cs} (hl : c.V.length = c.R.length) (he : ∀ i, i < c.V.length → c.err i = 0) (hc : icE c.n c.f c.desc.length c.P (c.ats c.V.length) = 0)
include hc
theorem Cs.ic:0<=c.n/\c.n<=32/\0<=c.f/\c.f<=c.n/\(c.desc.length:Int)=c.f/\(c.P.length:Int)=c.n-c.f/\pany c.f c.n c.P=Ab/\lfE c.n (c.ats c.V.length)=0:=by
 unfold icE at hc;split at hc;all_goals grind
theorem Cs.lf:c.V.length<=32/\atL c.n (c.ats c.V.length)=0/\(useP c.n.toNat (c.ats c.V.length) []).contains Ab=false:=by
 obtain⟨_,_,_,_,_,_,_,h⟩:=Cs.ic hc;unfold lfE at h;rw[Cs.ats_len]at h;grind
theorem Cs.perm:(∀z∈c.P,c.f<=z/\z<c.n)/\c.P.Nodup:=by
 obtain⟨_,_,_,_,_,_,h,_⟩:=Cs.ic hc;unfold pany at h;have hp:∀i,i<c.P.length->¬c.P.getD i 0<c.f/\¬c.n<=c.P.getD i 0/\c.P.getD i 0∉c.P.take i:=λi hi=>by
  simp_all [List.any_eq_false,Az,pbad,only,Bool.or_eq_true]
 grind [A0,Am,List.Nodup,A1,AU]
theorem Cs.vars{i:Nat}(hi:i<c.V.length):(c.V.getD i []).Pairwise (· <·)/\∀z∈c.V.getD i [],0<=z/\z<c.n:=by
 obtain⟨_,h1,_⟩:=Cs.lf hc;have h2:=atE_0 (atL_all h1 (c.at i) (Ao.2 ⟨i,Az.2 hi,rfl⟩));refine⟨asc_of h2.1,λz hz=>?_⟩
 have:=AD.1 h2.2.1 z hz
 grind [inB]
include hl he in
theorem Cs.inp_ok(hf:c.Few)(ht:c.Typ):c.inp.Ok:=by
 obtain⟨i1,i2,i3,i4,i5,i6,i7,i8⟩:=Cs.ic hc;obtain⟨l1,l2,l3⟩:=Cs.lf hc;obtain⟨p1,p2⟩:=Cs.perm hc;have hn6:c.n<=6:=by rcases hf.n with h|h<;>omega
 have hAl:c.inp.A.length=c.V.length:=by simp[Cs.inp]
 have hAt:∀i,i<c.V.length->c.inp.A.getD i Ak=((c.V.getD i []).map Ar,relR (c.R.getD i [])):=λi hi=>by
  grind [Cs.inp,A2]
 have hrow:∀i,i<c.V.length->(c.R.getD i []).length<=10/\∀x∈c.R.getD i [],x.length=(c.V.getD i []).length/\∀v∈x,vok v=Ad/\Vs v:=λi hi=>by
  have hm:c.R.getD i []∈c.R:=by rw[Ap,Am (by omega)];exact AI _
  refine⟨hf.r _ hm,λx hx=>?_⟩;have h1:=he i hi;unfold Cs.err rofA at h1;split at h1
  ·omega
  unfold rofE at h1;split at h1
  ·grind
  rename_i h2;have h3:accL ((c.V.getD i []).length:Nat) (c.R.getD i [])=0:=AZ h2;obtain⟨q1,q2⟩:=zXy h3 x hx;refine⟨by omega,λv hv=>?_⟩;have h4:=AD.1 q2 v hv;exact⟨h4,(ht _ hm x hx v hv).vs h4⟩
 refine⟨?_,?_,?_,?_,λv hv=>?_,?_,by rw[hAl];exact hf.V,?_,λa ha=>?_,?_⟩
 ·show c.n.toNat<=6;omega
 ·show c.f.toNat<=c.n.toNat;omega
 ·show c.desc.length=c.f.toNat;omega
 ·show(c.P.map Ar).length+c.f.toNat=c.n.toNat;rw[AL];omega
 ·obtain⟨z,hz,rfl⟩:=Ao.1 hv
  have:=p1 z hz
  show c.f.toNat<=z.toNat/\z.toNat<c.n.toNat;omega
 ·show(c.P.map Ar).Nodup;rw[List.Nodup,List.pairwise_map];exact p2.imp_of_mem λ{x y} hx hy hne e=>by
   grind
 ·rw[hAl];refine⟨λi hi=>?_,λi hi w hw=>?_,λv hv=>?_⟩
  ·rw[hAt i hi];obtain⟨q1,q2⟩:=Cs.vars hc hi;exact List.pairwise_map.2 (q1.imp_of_mem λ{x y} hx hy h=>by have:=q2 x hx;have:=q2 y hy;omega)
  ·rw[hAt i hi]at hw;obtain⟨z,hz,rfl⟩:=Ao.1 hw
   have:=(Cs.vars hc hi).2 z hz
   show z.toNat<c.n.toNat;omega
  have hv:v<c.n.toNat:=hv;have h1:(useP c.n.toNat (c.ats c.V.length) []).getD v Ad=true:=by
   grind
  unfold useP at h1;rw[Ap,List.getElem?_map,A2 hv,Option.map_some,AX]at h1;simp only[A3,decide_false,Bool.or_false,List.any_eq_true,decide_eq_true_eq]at h1;obtain⟨a,ha,hm⟩:=h1;obtain⟨i,hi,rfl⟩:=Ao.1 ha;have hi:=Az.1 hi;refine⟨i,hi,?_⟩;rw[hAt i hi];exact Ao.2 ⟨(v:Int),hm,by omega⟩
 ·obtain⟨i,hi,rfl⟩:=Ao.1 ha;grind [AA,zHj,zV3,zKp]
 have h1:=hf.C;rw[foldl_r,Nat.one_mul]at h1;refine AA ?_ h1;have e:c.R=(As c.V.length).map λi=>c.R.getD i []:=by
  apply List.ext_getElem (by simp[hl]);grind
 unfold combs Cs.inp;rw[e,AK,AK];refine zS3 _ _ _ λi hi=>?_;grind [As,relR,zHj]
theorem Cs.inp_n:(c.inp.n:Int)=c.n/\(c.inp.f:Int)=c.f:=by
 obtain⟨i1,i2,i3,_⟩:=Cs.ic hc;exact⟨by show((c.n.toNat:Nat):Int)=c.n;omega,by show((c.f.toNat:Nat):Int)=c.f;omega⟩
theorem Cs.inp_P:nsD c.inp.P=c.P.map λz=>iD z:=by
 obtain⟨p1,_⟩:=Cs.perm hc;obtain⟨_,_,i3,_⟩:=Cs.ic hc;show(c.P.map Ar).map (λv:Nat=>iD (v:Int))=_;rw[AK];exact A4 λz hz=>by have:=p1 z hz;show iD ((z.toNat:Nat):Int)=iD z;rw[show((z.toNat:Nat):Int)=z by omega]
theorem Cs.inp_A:c.inp.A.flatMap atR=(c.ats c.V.length).flatMap atC:=by
 unfold Cs.inp Cs.ats;rw[AQ,AQ,List.flatMap_def,List.flatMap_def];refine congrArg List.flatten (A4 λi hi=>?_);have hi:=Az.1 hi;show[Ah (((c.V.getD i []).map Ar).map λv:Nat=>iD (v:Int)) ((c.V.getD i []).map Ar).length,iD (((c.V.getD i []).map Ar).length:Nat),_]=[Ah ((c.V.getD i []).map λz=>iD z) (c.V.getD i []).length,iD ((c.V.getD i []).length:Nat),_];rw[AK,AL];congr 2;exact A4 λz hz=>by have:=(Cs.vars hc hi).2 z hz;show iD ((z.toNat:Nat):Int)=iD z;rw[show((z.toNat:Nat):Int)=z by omega]
theorem Cs.inp_D:inpN c.inp.b=inpD c.n c.f c.desc c.P (c.ats c.V.length):=by
 obtain⟨h1,h2⟩:=Cs.inp_n hc;show An [iD (c.inp.n:Nat),iD (c.inp.f:Nat), .row (c.desc.map bD) c.desc.length, .row (nsD c.inp.P) c.inp.P.length, .row (c.inp.A.flatMap atR) c.inp.A.length]=_;rw[h1,h2,Cs.inp_P hc,Cs.inp_A hc];have e1:c.inp.P.length=c.P.length:=by simp[Cs.inp]
 have e2:c.inp.A.length=(c.ats c.V.length).length:=by rw[Cs.ats_len];simp[Cs.inp]
 rw[e1,e2]
end
section
set_option maxRecDepth 100000
section
variable {B : Nat}
theorem zW6{P:Program}{n:Nat}{t e:TypeId}(hu:P.underlying t=Aj (.slice e))(he:P.underlying e=Aj (.int .i64)){ds:List D}(h:ShpB P B n t ds):∃l:List Int,ds=[zAr l]/\l.length<=B:=by
 obtain⟨m,ls,rfl,h1,hB⟩:=zEh hu h;obtain⟨bs,h2,h3,h4⟩:=zEo (g:=λz:Int=>iD z) (Q:=λx=>True) λx hx=>by
  obtain⟨z,rfl,h5⟩:=zLa he (h1 x hx);exact⟨z,rfl,trivial⟩
 grind
theorem in_vaB{n:Nat}{ds:List D}(h:ShpB Af B n 64 ds):∃a:Va,ds=vaC a/\Vt a:=by
 obtain⟨hl,m,hf⟩:=zM4 Tryz.underlying64 h;rw[show Af.cellsOf 64=3 by kernel_rfl]at hl;match ds,hl with
 |[a,b,c],_=>
  have c3:Af.cellsOf 3=1:=by kernel_rfl
  have c4:Af.cellsOf 2=1:=by kernel_rfl
  have c5:Af.cellsOf 9=1:=by kernel_rfl
  simp only[AO,A3,or_false,forall_eq_or_imp,forall_eq,c3,c4,c5,AN,List.drop_succ_cons,List.take_succ_cons,List.take_zero]at hf;obtain⟨g0,g1,g2⟩:=hf;obtain⟨x2,e2,k2⟩:=zLa Tryz.underlying3 g0;obtain⟨x3,e3,k3⟩:=zLa Tryz.underlying2 g1;obtain⟨x4,e4,k4⟩:=zX7 Tryz.underlying9 g2;simp only[List.cons.injEq,and_true]at e2 e3 e4;subst e2 e3 e4;simp only[inK]at k2 k3;exact⟨⟨x2,x3,x4.data.toList⟩,rfl,⟨k2.1,k2.2⟩,⟨k3.1,k3.2⟩⟩
theorem in_rowB{n:Nat}{ds:List D}(h:ShpB Af B n 54 ds):∃x:Rw,ds=[rowV x]/\x.length<=B/\∀a∈x,Vt a:=by
 obtain⟨m,ls,rfl,h1,hB⟩:=zEh Tryz.underlying54 h;obtain⟨bs,h2,h3,h4⟩:=zRj (g:=vaC) (Q:=Vt) λx hx=>in_vaB (h1 x hx);exact⟨bs,by rw[h2,<-h3];rfl,by omega,h4⟩
theorem in_rowsB{n:Nat}{ds:List D}(h:ShpB Af B n 65 ds):∃l:List Rw,ds=[zC0 l]/\l.length<=B/\∀x∈l,x.length<=B/\∀a∈x,Vt a:=by
 obtain⟨m,ls,rfl,h1,hB⟩:=zEh Tryz.underlying65 h;obtain⟨bs,h2,h3,h4⟩:=zEo (g:=rowV) (Q:=λx=>x.length<=B/\∀a∈x,Vt a) λx hx=>in_rowB (h1 x hx);grind
theorem arg_case{d:D}(hB:B<=2000000)(h:ArgB Af B 27 d):∃c:Cs,d= .agg (csC c)/\c.Small/\c.Typ:=by
 obtain⟨n,ds,rfl,h'⟩:=h.agg (by kernel_rfl);clear h;obtain⟨hl,m,hf⟩:=zM4 Tryz.underlying27 h';rw[show Af.cellsOf 27=6 by kernel_rfl]at hl;match ds,hl with
 | [a,b,c,d,e,f],_=>
  have c3:Af.cellsOf 3=1:=by kernel_rfl
  have c4:Af.cellsOf 22=1:=by kernel_rfl
  have c5:Af.cellsOf 23=1:=by kernel_rfl
  have c6:Af.cellsOf 24=1:=by kernel_rfl
  have c7:Af.cellsOf 25=1:=by kernel_rfl
  simp only[AO,A3,or_false,forall_eq_or_imp,forall_eq,c3,c4,c5,c6,c7,AN,List.drop_succ_cons,List.take_succ_cons,List.take_zero]at hf;obtain⟨g0,g1,g2,g3,g4,g5⟩:=hf;obtain⟨z0,e0,_⟩:=zLa Tryz.underlying3 g0;obtain⟨z1,e1,_⟩:=zLa Tryz.underlying3 g1;obtain⟨_,l2,e2,k2,b2⟩:=zEh Tryz.underlying22 g2;obtain⟨desc,q2,r2,_⟩:=zEo (g:=bD) (Q:=λ_=>True) λx hx=>by
   obtain⟨b,rfl⟩:=shp_bool Tryz.underlying4 (k2 x hx);exact⟨b,rfl,trivial⟩
  obtain⟨P,e3,b3⟩:=zW6 Tryz.underlying23 Tryz.underlying3 g3;obtain⟨_,l4,e4,k4,b4⟩:=zEh Tryz.underlying24 g4;obtain⟨V,q4,r4,s4⟩:=zEo (g:=zAr) (Q:=λl=>l.length<=B) λx hx=>zW6 Tryz.underlying23 Tryz.underlying3 (k4 x hx);obtain⟨_,l5,e5,k5,b5⟩:=zEh Tryz.underlying25 g5;obtain⟨R,q5,r5,s5⟩:=zEo (g:=zC0) (Q:=λl=>l.length<=B/\∀x∈l,x.length<=B/\∀a∈x,Vt a) λx hx=>in_rowsB (k5 x hx);simp only[List.cons.injEq,and_true]at e0 e1 e2 e3 e4 e5;subst e0 e1 e2 e3 e4 e5;refine⟨⟨z0,z1,desc,P,V,R⟩,?_,⟨?_,?_,?_,?_,?_,?_⟩,λl hl x hx=>((s5 l hl).2 x hx).2⟩;all_goals grind
end
end
section
attribute [local irreducible] seqW awp zAf zAn zAd Weak updS zAv retL Pure Acts rP setP setQ cP nP fr
set_option maxRecDepth 4096
theorem zTd(n:Int)(ats:List At)(h0:0<=n)(hn:n<=32)(hl:∀a∈ats,a.V.length<=2000000):Pure Af 14 [iD n, .row (ats.flatMap atC) ats.length] [] (iD (lfE n ats)):=by
 obtain⟨k,rfl⟩:∃k:Nat,n=(k:Int):=⟨n.toNat,by omega⟩;grind [lfE,ats,lfMany_c,AJ,zRk]
theorem Cs.ats_v{c:Cs}(h:c.Small){m:Nat}(hm:m<=c.V.length):∀a∈c.ats m,a.V.length<=2000000:=λa ha=>by
 obtain⟨i,hi,rfl⟩:=Ao.1 ha;have hi:=Az.1 hi;refine h.v _ ?_;show c.V.getD i []∈c.V;rw[Ap,Am (by omega)];exact AI _
theorem zJt(c:Cs)(h:c.Small){m:Nat}(hm:m<=c.V.length):Pure Af 16 [inpD c.n c.f c.desc c.P (c.ats m)] [] (iD (icE c.n c.f c.desc.length c.P (c.ats m))):=by
 have hv:=Cs.ats_v h hm;have hV:=h.V;exact icheck_c c.n c.f c.desc c.P (c.ats m) h.d h.P (by rw[Cs.ats_len];omega) hv λh0 h1=>zTd c.n _ h0 h1 hv
theorem valid_c(c:Cs)(h:c.Small):∃(m:Nat)(ok:Bool),m<=c.V.length/\(ok=Ad↔c.V.length=c.R.length/\(∀i,i<c.V.length->c.err i=0)/\icE c.n c.f c.desc.length c.P (c.ats c.V.length)=0)/\(ok=Ad->m=c.V.length)/\
  Pure Af 20 [.agg (csC c)] [] (.tup [inpD c.n c.f c.desc c.P (c.ats m),bD ok]):=by
 obtain⟨m,ok,h1,h2,h3,h4,h5⟩:=make_c c h;have hck:=zJt c h h1;cases ok
 ·refine⟨m,Ab,h1,⟨λhh=>(by cases hh),λhh=>?_⟩,λhh=>(by cases hh),?_⟩
  ·grind
  generalize c.ats m=ats at*;refine zF zA5 mixed Tryz.func20 rfl ?_;refine vAu<|vA<|vr 1 (6<=6)<|vc h5<|ve (0<2/\1<2/\Ab=Ab/\Ad=Ad/\5=5/\5<=5)<|zA<|vd [1,2,0,3,4,5,6,7,8]<|ve (5<=5/\Ab=Ab/\Ad=Ad/\5=5/\5<=5)<|zE<|vret (5<=5)<|.inr rfl
 have hm:=h4 rfl;obtain⟨q1,q2⟩:=h3.1 rfl;by_cases hz:icE c.n c.f c.desc.length c.P (c.ats m)=0
 ·refine⟨m,Ad,h1,⟨λ_=>⟨q1,q2,hm▸hz⟩,λ_=>rfl⟩,λ_=>hm,?_⟩;rw[hz]at hck;generalize c.ats m=ats at*;refine zF zA5 mixed Tryz.func20 rfl ?_;focus
   refine vAu<|vA<|vr 1 (6<=6)<|vca [An [iD<|Cs.n c,iD<|Cs.f c,(q40_ c),Ah (Ae (λ(z:Int)=>iD z)<|Cs.P c)<|Aa<|Cs.P c,(q41_ c),(q42_ c)]] (by(first|exact h5|exact hck))<|ve (0<2/\1<2/\Ab=Ab/\Ad=Ad/\5=5/\5<=5)<|zA<|vd [1,2,0,3,4,5,6,7,8]<|vr 4 (5<=5/\5<=5)<|vca [An [iD<|Cs.n c,iD<|Cs.f c,(q40_ c),Ah (Ae (λ(z:Int)=>iD z)<|Cs.P c)<|Aa<|Cs.P c,Ah (Ay atC ats)<|Aa ats]] (by(first|exact h5|exact hck))<|ve (True/\Ab=Ab/\Ad=Ad/\5=5/\5<=5) ?_;refine zE<|vret (5<=5)<|.inr rfl
 refine⟨m,Ab,h1,⟨λhh=>(by cases hh),λhh=>absurd (hm▸hh.2.2) hz⟩,λhh=>(by cases hh),?_⟩;generalize icE c.n c.f c.desc.length c.P (c.ats m)=e at*;generalize c.ats m=ats at*;have hze:(e==0)=false:=by simpa using hz
 refine zF zA5 mixed Tryz.func20 rfl ?_;focus
  refine vAu<|vA<|vr 1 (6<=6)<|vca [An [iD<|Cs.n c,iD<|Cs.f c,(q40_ c),Ah (Ae (λ(z:Int)=>iD z)<|Cs.P c)<|Aa<|Cs.P c,(q41_ c),(q42_ c)]] (by(first|exact h5|exact hck))<|ve (0<2/\1<2/\Ab=Ab/\Ad=Ad/\5=5/\5<=5)<|zA<|vd [1,2,0,3,4,5,6,7,8]<|vr 4 (5<=5/\5<=5)<|vca [An [iD<|Cs.n c,iD<|Cs.f c,(q40_ c),Ah (Ae (λ(z:Int)=>iD z)<|Cs.P c)<|Aa<|Cs.P c,Ah (Ay atC ats)<|Aa ats]] (by(first|exact h5|exact hck))<|vrT 1 ?_;refine vs 16 (bD (e==(0:Int))) (bD Ab) (by simp(disch:=omega) only[hze])<|ve (Ab=Ab/\Ad=Ad/\5=5/\5<=5)<|zE<|vret (5<=5)<|.inr rfl
theorem look_p(z:D)(K:List (List Va×Nat))(r:List Va):zRi Ad z (K.map λp=>kyv p.1) (K.map λp=>iD ((p.2:Nat):Int)) (kyv r)=match tlk K r with
  |some w=> .tup [iD ((w:Nat):Int),bD Ad]
  |none=> .tup [z,bD Ab]:=by
 induction K with
 |nil=>rfl
 |cons p K ih=>
  unfold zRi zEm tlk at*;rw[List.map_cons,List.map_cons,List.findIdx?_cons,zVm,List.find?_cons];by_cases h:r=p.1
  ·rw[decide_eq_true h];rfl
  grind
theorem pt_nd(l:List Bu)(hn:(l.map (·.key)).Nodup):∀j,j<=l.length->ptI l j=(As j).map λi=>((l.getD i Ak).key,i)
 |0,_=>rfl
 |j+1,h=>by
  rw[ptI,pt_nd l hn j (by omega),AR,List.map_append,tput];grind [List.findIdx?_eq_none_iff,Am,A1]
theorem pt_at(l:List Bu)(hn:(l.map (·.key)).Nodup){p:Nat}(hp:p<l.length):tlk (ptI l l.length) (l.getD p Ak).key=Aj p:=by
 rw[pt_nd l hn _ (Ax _),tlk];grind [As,List.find?_eq_some_iff_getElem,only,A5,Am,A1]
section
variable (desc : List Bool) (L : List Bg) (U : Nat → List Bu) (tot : Nat)
theorem ifree_c(v:Int)(hd:desc.length<=1000000):Pure Af 58 [ixD desc L U tot,iD v] [] (bD (decide (0<=v)&&decide (v<(desc.length:Int)))):=free_c desc _ rfl _ _ _ _ _ _ tot v hd
theorem zW2(ht:Sm tot):Pure Af 19 [ixD desc L U tot] [] (natD tot):=by
 have hn:=zLp tot ht;refine zF zA5 mixed Tryz.func19 rfl ?_;refine vAu<|vA<|vr 2 (True/\0<1)<|vc hn<|veT<|zE<|vret (True)<|.inr rfl
theorem zNt(v:Nat)(p n:Nat)(hn:((U v).getD p Ak).key.length=n)(hl:n<=10000)(hs:∀x∈((U v).getD p Ak).key,Vs x)(hd:desc.length<=1000000)(hv:v<desc.length)(hu:((U v).map (·.key)).Nodup)(hp:p<(U v).length)(hb:(U v).length<=1000000):Pure Af 21 [ixD desc L U tot,iD (v:Nat), .row (zJ ((U v).getD p Ak).key) n] [] (.tup [zK4 ((U v).getD p Ak).desc ((U v).getD p Ak).t,bD Ad]):=by
 have hf:=ifree_c desc L U tot (v:Nat) hd;rw[show(decide (0<=((v:Nat):Int))&&decide (((v:Nat):Int)<(desc.length:Int)))=Ad by rw[Bool.and_eq_true,decide_eq_true_eq,decide_eq_true_eq];omega]at hf;have hid:=zC1 _ n hn (by omega) hs;have hlk:=look_p (iD 0) (ptI (U v) (U v).length) ((U v).getD p Ak).key;rw[pt_at _ hu hp]at hlk;dsimp only at hlk;have hg:((fA desc.length λc=>zDb (U c)).drop v).headD .unk=zDb (U v):=by rw[zEd hv]
 have hpo:=zCa (g:=λc=>zDb (U c)) hv;have hg2:((fA desc.length λc=>busD (U c)).drop v).headD .unk=busD (U v):=by rw[zEd hv]
 have hpo2:=zCa (g:=λc=>busD (U c)) hv;have hg3:=zCv zCd (U v) p hp;have hle:=zEr zCd (U v) p hp;have hne:=zDd zCd (by decide) (U v) (by omega);have hg4:AM 2 (Ag 1 (Ag (p*3) ((U v).flatMap buC)))=[bD ((U v).getD p Ak).desc,((U v).getD p Ak).t.x]:=by
  rw[<-List.drop_take (i:=1) (j:=3),hg3];rfl
 have hle2:2<=(Ag 1 (Ag (p*3) ((U v).flatMap buC))).length:=by rw[List.length_drop];omega
 generalize (U v).getD p Ak=b at*;refine zF zA5 mixed Tryz.func21 rfl ?_;focus
  refine vAu (zA (vA (vr 2 (5<=5) (vca [An [Ah (Ae bD desc) (Aa desc),(q38_ L),Ah (fA (Aa desc) λ(c:Nat)=>busD (U c)) (Aa desc),Ah (fA (Aa desc) λ(c:Nat)=>zDb (U c)) (Aa desc),natD tot],iD v] (by(first|exact hf|exact hid)) (veT (vf (vK ?_)))))));refine zA (vd [0,2,5,1,3,4,6,7,8,9,10,11,12] (vr 5 (True/\0<2/\ix ↑v ↑(Aa desc) ((fA (Aa desc) λ(c:Nat)=>zDb (U c))≠[])) (vp 19 v (fA (Aa desc) λ(c:Nat)=>zDb (U c)) (vr 1 (0<Aa (Ag v (fA (Aa desc) λ(c:Nat)=>zDb (U c)))) (vsh 20 hg (vca [Ah (zJ (Bu.key b)) n] (by(first|exact hf|exact hid)) (vr 1 (zW (TypeInfo.desc (TypeInfo.mk TypeDesc.string "string" 1 16 Ad 8 8 (Aj (Value.string (ByteArray.mk #[]))) Ad #[])) (Value.string (bs (idR (Bu.key b))))=Ad/\List.all (Ae (λ(p:List Va×Nat)=>kyv (Prod.fst p)) (ptI (U v) (Aa (U v)))) (zW (TypeInfo.desc (TypeInfo.mk TypeDesc.string "string" 1 16 Ad 8 8 (Aj (Value.string (ByteArray.mk #[]))) Ad #[])))=Ad) (vsh 23 hlk (ve (0<2/\1<2) (zA (vAe ?_)))) ⟨(by kernel_rfl),(by exact zG2 _)⟩))))) ⟨trivial,(by omega),⟨(by omega),⟨(by omega),(by exact fA_ne hv)⟩⟩⟩));refine vf (vK (vA (vr 4 (True/\0<3/\ix ↑v ↑(Aa desc) ((fA (Aa desc) λ(c:Nat)=>busD (U c))≠[])) (vp 32 v (fA (Aa desc) λ(c:Nat)=>busD (U c)) (vr 1 (0<Aa (Ag v (fA (Aa desc) λ(c:Nat)=>busD (U c)))) (vsh 33 hg2 (vr 4 (ix ↑p (Aa (U v):Int) (Ay buC (U v)≠[])/\True/\2<=Aa (Ag 1 (Ag (p*3) (Ay buC (U v))))) (vs 37 (An (AM 2 (Ag 1 (Ag (p*3) (Ay buC (U v)))))) (An [bD (Bu.desc b),WT.x (Bu.t b)]) (by simp(disch:=omega) only[hg4]) (ve (Ab=Ab/\Ad=Ad/\2=2/\2<=2) (zE ?_))))))) ⟨trivial,(by omega),⟨(by omega),⟨(by omega),(by exact fA_ne hv)⟩⟩⟩)));refine vret (2<=2) (.inr rfl)
end
end
section
set_option maxRecDepth 100000
def nm(z:Int):Va:=⟨1,z,[]⟩
def exR:List (List Rw):=[[[nm 1,nm 1],[nm 1,nm 2],[nm 2,nm 2]],[[nm 1,nm 7],[nm 2,nm 7],[nm 2,nm 8]]]
def ex1:Cs:=⟨3,3,[Ab,Ab,Ab],[],[[0,1],[1,2]],exR⟩
def ex2:Cs:=⟨3,1,[Ab],[2,1],[[0,1],[1,2]],exR⟩
theorem exR_t:∀l∈exR,∀x∈l,∀v∈x,Vt v:=by unfold Vt;decide+kernel
theorem ex1_s:ex1.Small:=⟨by decide,by decide,by decide,by decide,by decide,by decide⟩
theorem ex2_s:ex2.Small:=⟨by decide,by decide,by decide,by decide,by decide,by decide⟩
theorem ex1_f:ex1.Few:=⟨by decide,by decide,by decide,by decide,by decide,by decide,by decide,by decide⟩
theorem ex2_f:ex2.Few:=⟨by decide,by decide,by decide,by decide,by decide,by decide,by decide,by decide⟩
theorem ex1_v:ex1.V.length=ex1.R.length/\(∀i,i<ex1.V.length->ex1.err i=0)/\icE ex1.n ex1.f ex1.desc.length ex1.P (ex1.ats ex1.V.length)=0:=by decide+kernel
theorem ex2_v:ex2.V.length=ex2.R.length/\(∀i,i<ex2.V.length->ex2.err i=0)/\icE ex2.n ex2.f ex2.desc.length ex2.P (ex2.ats ex2.V.length)=0:=by decide+kernel
theorem ex1_t:ex1.inp.tot=5:=by decide+kernel
theorem ex2_t:ex2.inp.tot=2:=by decide+kernel
theorem ex1_0:(ex1.inp.U 0).length=1/\((ex1.inp.U 0).getD 0 Ak).key=[]/\((ex1.inp.U 0).getD 0 Ak).desc=Ab/\((ex1.inp.U 0).getD 0 Ak).t.look Ab (nm 1)=Aj 3:=by decide+kernel
theorem ex1_2:(ex1.inp.U 2).length=2/\((ex1.inp.U 2).getD 1 Ak).key=[nm 2]/\((ex1.inp.U 2).getD 1 Ak).desc=Ab/\((ex1.inp.U 2).getD 1 Ak).t.sz=2:=by decide+kernel
theorem ex1_k:((ex1.inp.U 0).getD 0 Ak).t.sz<=10/\((ex1.inp.U 0).getD 0 Ak).t.tot<=2^10:=by decide+kernel
theorem ex1_n:((ex1.inp.U 0).map (·.key)).Nodup/\((ex1.inp.U 2).map (·.key)).Nodup:=by decide+kernel
end
section
attribute [local irreducible] seqW awp zAf zAn zAd Weak updS zAv retL Pure Acts rP setP setQ cP nP fr
set_option maxRecDepth 4096
theorem zHm(z:Int):Pure Af 43 [iD z] [] (vaD (nm z)):=by
 refine zF zA5 mixed Tryz.func43 rfl ?_;refine vAu<|vA<|ve (((1=1/\1<=3/\1=1/\2<=3/\True)/\Ad=Ad)/\Ab=Ab/\Ad=Ad/\3=3/\3<=3)<|zE<|vret (3<=3)<|.inr rfl
def Tex:Par:=⟨λ_=>Ab,λ_ _=>none,λ_=>Ab,λ_=>Ab,λt=>t==54||t==23||t==65⟩
theorem Tex_ok:zA9 Af Tex:=by intro t n f h;cases h
theorem zR0:Pure Af 47 [] [] (.agg (csC ex1)):=by
 refine zF Tex_ok mixed Tryz.func47 rfl ?_;focus
  refine vAu<|zA<|vd [0,1,2,3,4,5,6,7,8,9,10,11,12,13,14,15,16,17,18,19,20,21,22,23,24,25,26]<|vr 4 (((0:Int)<=(3:Int)/\(3:Int)<=(3:Int)/\(↑(1:Nat):Int)*(3:Int)<=(281474976710656:Int)/\(3:Int)<=(281474976710656:Int)/\0<1/\1=1)/\((1=1/\1<=2/\1=1/\2<=2/\True)/\0<1/\1=1/\2<=16777216/\2<=9223372036854775807)/\((1=1/\1<=2/\1=1/\2<=2/\True)/\0<1/\1=1/\2<=16777216/\2<=9223372036854775807)/\(1=1/\1<=2/\1=1/\2<=2/\True)/\0<1/\1=1/\2<=16777216/\2<=9223372036854775807)<|vc (zHm 1)<|vc (zHm 1)<|vr 1 ((3=3/\3<=6/\3=3/\6<=6/\True)/\0<3/\3=3/\6<=16777216/\2<=9223372036854775807)<|vc (zHm 1)<|vc (zHm 2)<|vr 1 ((3=3/\3<=6/\3=3/\6<=6/\True)/\0<3/\3=3/\6<=16777216/\2<=9223372036854775807)<|vc (zHm 2) ?_;refine vc (zHm 2)<|vr 2 (((3=3/\3<=6/\3=3/\6<=6/\True)/\0<3/\3=3/\6<=16777216/\2<=9223372036854775807)/\(1=1/\1<=3/\1=1/\2<=3/\1=1/\3<=3/\True)/\0<1/\1=1/\3<=16777216/\3<=9223372036854775807)<|vc (zHm 1)<|vc (zHm 7)<|vr 1 ((3=3/\3<=6/\3=3/\6<=6/\True)/\0<3/\3=3/\6<=16777216/\2<=9223372036854775807)<|vc (zHm 2)<|vc (zHm 7)<|vr 1 ((3=3/\3<=6/\3=3/\6<=6/\True)/\0<3/\3=3/\6<=16777216/\2<=9223372036854775807)<|vc (zHm 2)<|vc (zHm 8)<|ve (((3=3/\3<=6/\3=3/\6<=6/\True)/\0<3/\3=3/\6<=16777216/\2<=9223372036854775807)/\((1=1/\1<=3/\1=1/\2<=3/\1=1/\3<=3/\True)/\0<1/\1=1/\3<=16777216/\3<=9223372036854775807)/\((1=1/\1<=2/\1=1/\2<=2/\True)/\0<1/\1=1/\2<=16777216/\2<=9223372036854775807)/\((1=1/\1<=6/\1=1/\2<=6/\1=1/\3<=6/\1=1/\5<=6/\1=1/\6<=6/\True)/\Ad=Ad)/\Ab=Ab/\Ad=Ad/\6=6/\6<=6)<|zE<|vret (6<=6)<|.inr rfl
theorem zP6(c:Cs)(h:c.Small)(hl:c.V.length=c.R.length)(he:∀i,i<c.V.length->c.err i=0)(hc:icE c.n c.f c.desc.length c.P (c.ats c.V.length)=0)(hf:c.Few)(ht:c.Typ):∃S:Nat,S+zDm c.inp.R<=1000000000000000000/\Pure Af 32 [iD (c.inp.n:Nat), .row (c.inp.L.flatMap bgC) c.inp.L.length, .row (c.inp.A.flatMap atR) c.inp.A.length] [] (.tup [.row (c.inp.R.flatMap atR) c.inp.R.length,iD ((S:Nat):Int),iD 0])/\
  Pure Af 15 [inpD c.n c.f c.desc c.P (c.ats c.V.length)] [] (.tup [c.inp.ix,iD ((S+zDm c.inp.R:Nat):Int),iD 0]):=by
 have hck:=zJt c h (Ax _);rw[hc,<-Cs.inp_D hc]at hck;obtain⟨S,h1,h2,h3⟩:=Inp.build (Cs.inp_ok hl he hc hf ht) hck;rw[Cs.inp_D hc]at h3;exact⟨S,h1,h2,h3⟩
theorem zS8(a:Nat)(ha:Sm a):Pure Af 27 [natD a,natD a] [] (iD 0):=by
 grind [ncmp_c,cmpD]
section
variable (a1 a2 a3 b1 b2 b3 : List D) (l1 l2 l3 k1 k2 k3 : Nat) (c1 c2 c3 c4 d1 d2 d3 d4 : List D) (m1 m2 m3 m4 n1 n2 n3 n4 : Nat) (t u : WT) (s1 s2 : Int) (five three two : Nat)
abbrev exI1:D:= .agg [iD 3,iD 3, .row a1 l1, .row a2 l2, .row a3 l3]
abbrev exX(five:Nat):D:= .agg [.row c1 m1, .row c2 m2, .row c3 m3, .row c4 m4,natD five]
abbrev exI2:D:= .agg [iD 3,iD 1, .row b1 k1, .row b2 k2, .row b3 k3]
set_option maxHeartbeats 4000000 in
theorem awakeW(e5:five=5)(e3:three=3)(e2:two=2)(hsz:u.sz=2)
  (h1:Pure Af 20 [.agg (csC ex1)] [] (.tup [exI1 a1 a2 a3 l1 l2 l3,bD Ad]))
  (h2:Pure Af 15 [exI1 a1 a2 a3 l1 l2 l3] [] (.tup [exX c1 c2 c3 c4 m1 m2 m3 m4 five,iD s1,iD 0]))
  (h3:Pure Af 21 [exX c1 c2 c3 c4 m1 m2 m3 m4 five,iD 0, .val (.slice none 0 0)] [] (.tup [zK4 Ab t,bD Ad]))
  (h4:Pure Af 23 [zK4 Ab t,vaD (nm 1)] [] (.tup [natD three,bD Ad]))
  (h5:Pure Af 21 [exX c1 c2 c3 c4 m1 m2 m3 m4 five,iD 2, .row (vaC (nm 2)) 1] [] (.tup [zK4 Ab u,bD Ad]))
  (h6:Pure Af 20 [.agg (csC ex2)] [] (.tup [exI2 b1 b2 b3 k1 k2 k3,bD Ad]))
  (h7:Pure Af 15 [exI2 b1 b2 b3 k1 k2 k3] [] (.tup [exX d1 d2 d3 d4 n1 n2 n3 n4 two,iD s2,iD 0]))
  (h8:Pure Af 19 [exX c1 c2 c3 c4 m1 m2 m3 m4 five] [] (natD five))
  (h9:Pure Af 19 [exX d1 d2 d3 d4 n1 n2 n3 n4 two] [] (natD two)):Pure Af 11 [] [] (bD Ad):=by
 have o5:Pure Af 36 [.val (.int .u64 5)] [] (natD five):=by subst e5;exact of_c 5 (by decide)
 have o3:Pure Af 36 [.val (.int .u64 3)] [] (natD three):=by subst e3;exact of_c 3 (by decide)
 have o2:Pure Af 36 [.val (.int .u64 2)] [] (natD two):=by subst e2;exact of_c 2 (by decide)
 have q5:=zS8 five (by subst e5;exact Aw (e:=10) (by decide) (by decide));have q3:=zS8 three (by subst e3;exact Aw (e:=10) (by decide) (by decide));have q2:=zS8 two (by subst e2;exact Aw (e:=10) (by decide) (by decide));have hwl:=wlen_c Ab u;rw[hsz]at hwl;refine zF zA5 mixed Tryz.func11 rfl ?_;focus
  refine vAu<|vA<|vc zR0<|vc h1<|ve (0<2/\1<2/\Ab=Ab/\Ad=Ad/\5=5/\5<=5)<|vA<|vr 1 (5<=5)<|vc h2<|ve (0<3/\1<3/\2<3/\Ab=Ab/\Ad=Ad/\5=5/\5<=5) ?_;refine vA<|vr 1 (5<=5)<|vc h3<|ve (0<2/\1<2/\Ab=Ab/\Ad=Ad/\2=2/\2<=2)<|zA<|vd [0,1,2,3,4,5,6,7]<|vr 1 (2<=2)<|vc (zHm 1)<|vc h4<|ve (0<2/\1<2)<|zA<|vd [0,1,2,3,4,5,6,7,8,9]<|vr 1 (5<=5) ?_;refine vc (zHm 2)<|vr 1 ((3=3/\3<=3/\True)/\0<3/\3=3/\3<=16777216/\1<=9223372036854775807)<|vc h5<|ve (0<2/\1<2/\Ab=Ab/\Ad=Ad/\2=2/\2<=2)<|vA<|vc zR0<|ve (Ab=Ab/\Ad=Ad/\6=6/\6<=6)<|zA ?_;refine zA6 [2,0,1] [(3,[(0,6),(1,7)],[4]),(5,[(1,7)],[6,7])] rfl ?_;refine vr 3 (True/\((0:Int)<=(1:Int)/\(1:Int)<=(1:Int)/\(↑(1:Nat):Int)*(1:Int)<=(281474976710656:Int)/\(1:Int)<=(281474976710656:Int)/\0<1/\1=1)/\(1=1/\1<=2/\1=1/\2<=2/\True)/\0<1/\1=1/\2<=16777216/\2<=9223372036854775807)<|vnil<|zBy rfl rfl (by kernel_rfl)<|vr 1 (Ab=Ab/\Ad=Ad/\1=1/\2<=6)<|vnil ?_;refine zE1 (C:=((0:Int)<=(1:Int)/\(1:Int)<=(1:Int)/\(↑(1:Nat):Int)*(1:Int)<=(281474976710656:Int)/\(1:Int)<=(281474976710656:Int)/\0<1/\1=1)/\Aj (D.osl 6 0 1 1 Ad)=Aj (D.osl 6 0 1 1 Ad)/\eqDL [bD Ab] [bD Ab]/\4=4/\1=1/\Ad=Ad/\(kdOf Ab)=kdOf Ab/\((1=1/\1<=2/\1=1/\2<=2/\True)/\0<1/\1=1/\2<=16777216/\2<=9223372036854775807)/\Aj (D.osl 7 0 2 2 Ad)=Aj (D.osl 7 0 2 2 Ad)/\eqDL [iD 2,iD 1] [iD 2,iD 1]/\3=3/\1=1/\Ad=Ad/\AE=AE) ⟨(by omega),(by kernel_rfl),rfl,(by kernel_rfl),(by kernel_rfl),(by kernel_rfl),(by kernel_rfl),⟨⟨(by kernel_rfl),⟨(by omega),⟨(by kernel_rfl),⟨(by omega),trivial⟩⟩⟩⟩,(by omega)⟩,(by kernel_rfl),rfl,(by kernel_rfl),(by kernel_rfl),(by kernel_rfl),(by kernel_rfl)⟩ ?_;refine vrT 1<|vnil<|zBy rfl rfl (by kernel_rfl)<|vr 1 (Ab=Ab/\Ad=Ad/\1=1/\3<=6)<|vnil ?_;refine zE1 (C:=((1=1/\1<=2/\1=1/\2<=2/\True)/\0<1/\1=1/\2<=16777216/\2<=9223372036854775807)/\Aj (D.osl 7 0 2 2 Ad)=Aj (D.osl 7 0 2 2 Ad)/\eqDL [iD 2,iD 1] [iD 2,iD 1]/\3=3/\1=1/\Ad=Ad/\AE=AE) ⟨⟨⟨(by kernel_rfl),⟨(by omega),⟨(by kernel_rfl),⟨(by omega),trivial⟩⟩⟩⟩,(by omega)⟩,(by kernel_rfl),rfl,(by kernel_rfl),(by kernel_rfl),(by kernel_rfl),(by kernel_rfl)⟩ ?_;refine vr 2 (True/\Ab=Ab/\Ad=Ad/\1=1/\4<=6)<|vnil<|zBt<|vN<|vA<|vr 1 (6<=6)<|vc h6<|ve (0<2/\1<2/\Ab=Ab/\Ad=Ad/\5=5/\5<=5)<|vA<|vr 1 (5<=5)<|vc h7 ?_;refine ve (0<3/\1<3/\2<3/\Ab=Ab/\Ad=Ad/\5=5/\5<=5)<|vA<|vr 23 (True/\True/\5<=5)<|vc h8<|vc o5<|vc q5<|vrT 4<|vc o3<|vc q3<|vr 4 (True/\2<=2)<|vc hwl<|vr 4 (True/\5<=5)<|vc h9 ?_;refine vc o2<|vc q2<|veT<|zE<|vret (True)<|.inr rfl
end
theorem zVl(c:Cs)(h:c.Small)(hv:c.V.length=c.R.length/\(∀i,i<c.V.length->c.err i=0)/\icE c.n c.f c.desc.length c.P (c.ats c.V.length)=0):Pure Af 20 [.agg (csC c)] [] (.tup [inpD c.n c.f c.desc c.P (c.ats c.V.length),bD Ad]):=by
 obtain⟨m,ok,_,h1,h2,h3⟩:=valid_c c h;grind
theorem zT7:Pure Af 11 [] [] (bD Ad):=by
 have v1:=zVl ex1 ex1_s ex1_v;have v2:=zVl ex2 ex2_s ex2_v;obtain⟨S1,_,_,b1⟩:=zP6 ex1 ex1_s ex1_v.1 ex1_v.2.1 ex1_v.2.2 ex1_f exR_t;obtain⟨S2,_,_,b2⟩:=zP6 ex2 ex2_s ex2_v.1 ex2_v.2.1 ex2_v.2.2 ex2_f exR_t;obtain⟨p1,p2,p3,p4⟩:=ex1_0;obtain⟨q1,q2,q3,q4⟩:=ex1_2;obtain⟨k1,k2⟩:=ex1_k;have u0:=zNt ex1.inp.desc (ex1.inp.L.take ex1.inp.f) ex1.inp.U ex1.inp.tot 0 0 0 (by rw[p2];rfl) (by omega) (by rw[p2];simp) (by decide) (by decide) ex1_n.1 (by omega) (by omega);have u2:=zNt ex1.inp.desc (ex1.inp.L.take ex1.inp.f) ex1.inp.U ex1.inp.tot 2 1 1 (by rw[q2];rfl) (by omega) (by rw[q2];intro x hx;obtain rfl:=List.mem_singleton.1 hx;exact Vt.vs (by unfold Vt;decide) (by decide)) (by decide) (by decide) ex1_n.2 (by omega) (by omega);rw[p2,p3]at u0;rw[q2,q3]at u2;have g0:=wget_c Ab ((ex1.inp.U 0).getD 0 Ak).t (nm 1) ⟨by omega,Aw k2 (by decide)⟩;rw[p4]at g0;have t1:=zW2 ex1.inp.desc (ex1.inp.L.take ex1.inp.f) ex1.inp.U ex1.inp.tot (by rw[ex1_t];exact Aw (e:=10) (by decide) (by decide));have t2:=zW2 ex2.inp.desc (ex2.inp.L.take ex2.inp.f) ex2.inp.U ex2.inp.tot (by rw[ex2_t];exact Aw (e:=10) (by decide) (by decide));refine awakeW (t:=((ex1.inp.U 0).getD 0 Ak).t) (u:=((ex1.inp.U 2).getD 1 Ak).t) (five:=ex1.inp.tot) (three:=3) (two:=ex2.inp.tot) (e5:=ex1_t) (e3:=rfl) (e2:=ex2_t) (hsz:=q4) (h1:=v1) (h2:=b1) (h3:=u0.le (.cons (.refl _) (.cons (.refl _) (.cons LeD.nil_row .nil)))) (h4:=g0) (h5:=u2) (h6:=v2) (h7:=b2) (h8:=t1) (h9:=t2)
end
def sv(l:List Int):List Nat:=l.filterMap λv=>if 0<=v/\v<32 then Aj v.toNat else none
theorem sv_lt{l:List Int}:∀v∈sv l,v<32:=λv hv=>by
 obtain⟨x,_,h⟩:=List.mem_filterMap.1 hv;split at h
 ·cases h;omega
 cases h
theorem mem_sv{l:List Int}{v:Nat}(h:v<32):v∈sv l↔(v:Int)∈l:=by
 unfold sv;rw[List.mem_filterMap];constructor
 ·rintro⟨x,hx,e⟩;split at e
  ·cases e;rwa[show((x.toNat:Nat):Int)=x by omega]
  cases e
 intro hx;exact⟨v,hx,by rw[if_pos (by omega)];rfl⟩
def sK(V:List (List Int))(i j:Nat):List Nat:=sv ((V.take i).flatten++(V.getD i []).take j)
theorem sK_0(V:List (List Int)):sK V 0 0=[]:=by simp[sK,sv]
theorem zZm{α:Type}[Inhabited α](l:List α)(d:α)(j:Nat)(h:j<l.length):l.take (j+1)=l.take j++[l.getD j d]:=by
 rw[List.take_add_one,Am h,Ap,Am h];rfl
theorem sK_yes(V:List (List Int))(i j:Nat)(h:j<(V.getD i []).length)(hv:0<=(V.getD i []).getD j 0/\(V.getD i []).getD j 0<32):msk (sK V i (j+1))=msk (sK V i j)|||2^((V.getD i []).getD j 0).toNat:=by
 unfold sK sv;rw[zZm _ 0 j h,<-List.append_assoc,List.filterMap_append];simp only[List.filterMap_cons,List.filterMap_nil,if_pos hv,msk,List.foldl_append,List.foldl_cons,List.foldl_nil]
theorem sK_no(V:List (List Int))(i j:Nat)(h:j<(V.getD i []).length)(hv:¬(0<=(V.getD i []).getD j 0/\(V.getD i []).getD j 0<32)):sK V i (j+1)=sK V i j:=by
 unfold sK sv;rw[zZm _ 0 j h,<-List.append_assoc,List.filterMap_append];simp only[List.filterMap_cons,List.filterMap_nil,if_neg hv,List.append_nil]
theorem sK_end(V:List (List Int))(i:Nat)(h:i<V.length):sK V (i+1) 0=sK V i (V.getD i []).length:=by
 unfold sK;rw[zZm V [] i h,List.flatten_append,AW];simp
theorem sK_all(V:List (List Int)):sK V V.length 0=sv V.flatten:=by simp[sK]
def pm(b:Bool)(f n:Int)(P:List Int)(i:Nat):Bool:=b&&(As i).all λj=>!pbad f n P j
def pmI(b:Bool)(f n:Int)(P:List Int)(i k:Nat):Bool:=pm b f n P i&&decide (f<=P.getD i 0)&&decide (P.getD i 0<n)&&(As k).all λj=>decide (P.getD i 0≠P.getD j 0)
theorem pm_0(b:Bool)(f n:Int)(P:List Int):pm b f n P 0=b:=by simp[pm]
theorem pmI_0(b:Bool)(f n:Int)(P:List Int)(i:Nat):pmI b f n P i 0=(pm b f n P i&&decide (f<=P.getD i 0)&&decide (P.getD i 0<n)):=by simp[pmI]
theorem pmI_s(b:Bool)(f n:Int)(P:List Int)(i k:Nat):pmI b f n P i (k+1)=(pmI b f n P i k&&(P.getD i 0 !=P.getD k 0)):=by
 rw[show(P.getD i 0 !=P.getD k 0)=decide (P.getD i 0≠P.getD k 0) by by_cases h:P.getD i 0=P.getD k 0<;>simp only[h,bne_self_eq_false,ne_eq,not_true,decide_false,not_false_eq_true,decide_true,bne_iff_ne.2]];simp only[pmI,AR,List.all_append,List.all_cons,List.all_nil,Bool.and_true,Bool.and_assoc]
theorem all_ne(P:List Int)(x:Int)(i:Nat)(hi:i<=P.length):((As i).all λj=>decide (x≠P.getD j 0))=!decide (x∈P.take i):=by
 rw[Bool.eq_iff_iff];simp only[AD,Az,decide_eq_true_eq,A5,decide_eq_false_iff_not];constructor
 ·intro h hm;obtain⟨j,hj,e⟩:=A0 hm;have hj2:j<i:=by rw[List.length_take]at hj;omega
  have:=h j hj2
  rw[List.getElem_take]at e;rw[Ap,Am (by omega)]at this;exact this e.symm
 intro h j hj e;refine h (e▸?_);rw[Ap,Am (by omega),AX];exact AU.2 ⟨j,by omega,rfl⟩
theorem pm_s(b:Bool)(f n:Int)(P:List Int)(i:Nat)(hi:i<P.length):pm b f n P (i+1)=pmI b f n P i i:=by
 unfold pm pmI pm;rw[AR,List.all_append,all_ne P _ i (by omega)];simp only[List.all_cons,List.all_nil,Bool.and_true,pbad,Bool.not_or];rw[show(!decide (P.getD i 0<f))=decide (f<=P.getD i 0) by rw[<-decide_not];exact decide_eq_decide.2 (by omega),show(!decide (n<=P.getD i 0))=decide (P.getD i 0<n) by rw[<-decide_not];exact decide_eq_decide.2 (by omega)];simp only[Bool.and_assoc]
theorem pm_all(b:Bool)(f n:Int)(P:List Int):pm b f n P P.length=(b&&!pany f n P):=by
 unfold pm pany;rw[List.not_any_eq_all_not]
theorem zZ4{n:Nat}(hn:n<=32){ats:List At}{V:List (List Int)}(hV:ats.map (·.V)=V)(h:lfE n ats=0):msk (sv V.flatten)=2^n-1:=by
 unfold lfE at h;rw[if_neg (by omega)]at h;split at h
 ·cases h
 split at h
 ·contradiction
 rename_i h1;split at h
 ·cases h
 rename_i h2;rw[AJ]at h2;have hat:∀(l:List At),atL n l=0->∀a∈l,atE n a=0:=by
  intro l;induction l with
  |nil=>intro _ a ha;cases ha
  | cons b l ih=>
   intro hl a ha;unfold atL at hl;split at hl
   ·contradiction
   rcases AO.1 ha with rfl|ha
   ·rename_i h3;omega
   exact ih hl a ha
 have hA:=hat ats (by omega);apply Nat.eq_of_testBit_eq;intro v;rw[zPo,Nat.testBit_two_pow_sub_one];refine decide_eq_decide.2 ⟨λhv=>?_,λhv=>?_⟩
 ·have h32:=sv_lt v hv;rw[mem_sv h32,<-hV,List.mem_flatten]at hv;obtain⟨l,hl,hvl⟩:=hv;obtain⟨a,ha,rfl⟩:=Ao.1 hl
  have:=hA a ha
  unfold atE at this;split at this
  ·cases this
  split at this
  ·cases this
  rename_i h4;have h5:=AD.1 (by simpa using h4) _ hvl;unfold inB at h5;simp at h5;omega
 rw[mem_sv (by omega),<-hV,List.mem_flatten];have h3:Ab∉useP n ats []:=λhm=>h2 (by simpa using hm);have h4:(useP n ats []).getD v Ad=true:=by
  cases e:(useP n ats []).getD v Ad with
  |true=>rfl
  |false=>
   refine absurd ?_ h3;rw[<-e];have hl:v<(useP n ats []).length:=by rw[zKj];exact hv
   rw[Ap,Am hl];exact AI hl
 unfold useP at h4;rw[Ap,List.getElem?_map,A2 hv]at h4;simp at h4;obtain⟨a,ha,hva⟩:=h4;exact⟨a.V,Ao.2 ⟨a,ha,rfl⟩,hva⟩
section
attribute [local irreducible] seqW awp zAf zAn zAd Weak updS zAv retL Pure Acts rP setP setQ cP nP fr
set_option maxRecDepth 4096
abbrev zIx:D:= .agg [.row [] 0, .row [] 0, .row [] 0, .row [] 0, .row [] 0]
theorem buildE_c(n f:Int)(desc:List Bool)(P:List Int)(ats:List At)(e:Int)(he:e≠0)(hck:Pure Af 16 [inpD n f desc P ats] [] (iD e)):Pure Af 15 [inpD n f desc P ats] [] (.tup [zIx,iD 0,iD e]):=by
 refine zF zA5 mixed Tryz.func15 rfl ?_;focus
  refine vAu<|zA<|vA<|vr 1 (5<=5)<|vc hck<|veT<|vAe<|zEu (t:=e !=(0:Int)) (by kernel_rfl) (by simpa using by omega) ?_;refine vA<|ve ((True/\Ad=Ad)/\Ab=Ab/\Ad=Ad/\5=5/\5<=5)<|zE<|zG<|vret (5<=5)<|.inr rfl
theorem zfree_c:Pure Af 17 [zIx] [] (iD 0):=by
 refine zF zA5 mixed Tryz.func17 rfl ?_;refine vAu<|vA<|ve (True/\0<5)<|zE<|vret (True)<|.inr rfl
theorem ztotal_c:Pure Af 19 [zIx] [] (.row [] 0):=by
 have hn:=zLp 0 (by unfold Sm;simp[dg]);rw[zLt]at hn;refine zF zA5 mixed Tryz.func19 rfl ?_;refine vAu<|vA<|vr 2 (True/\0<1)<|vc hn<|veT<|zE<|vret (True)<|.inr rfl
theorem bits0_c:Pure Af 18 [.row [] 0] [] (iD 0):=by
 have hn:=zFo [] 0 rfl (by omega) (by simp[Digs]);rw[show nval []=0 from rfl,zLt]at hn;refine zF zA5 mixed Tryz.func18 rfl ?_;focus
  refine vAu<|vA<|vrT 1<|vc hn<|veT<|zA<|vAe<|vt ?_;refine vAe<|zE<|zG<|vret (True)<|.inr rfl
section
variable (c : Cs) (ats : List At) (e N1 : Int) (X : D)
set_option maxHeartbeats 4000000 in
theorem checksW(hs:c.Small)(hf:c.Few)
  (hm:Pure Af 12 [.agg (csC c)] [] (.tup [inpD c.n c.f c.desc c.P ats,bD Ad]))
  (h2:Pure Af 13 [.agg (csC c)] [] (bD Ad))
  (hl:0<=c.n->c.n<=32->Pure Af 14 [iD c.n, .row (ats.flatMap atC) ats.length] [] (iD (lfE c.n ats)))
  (he:e=icE c.n c.f c.desc.length c.P ats)
  (hb:Pure Af 15 [inpD c.n c.f c.desc c.P ats] [] (.tup [X,iD N1,iD e]))
  (hck:Pure Af 16 [inpD c.n c.f c.desc c.P ats] [] (iD e))
  (hx:(e=0/\∃y1 y2 y3 y4 y5,X= .agg [y1,y2,y3,y4,y5])\/X=zIx/\N1=0)
  (hsn:0<=c.n->c.n<=32->lfE c.n ats=0->msk (sv c.V.flatten)=2^c.n.toNat-1):Pure Af 3 [.agg (csC c)] [] (bD Ad):=by
 have hV:∀i,i<c.V.length->((c.V.map zAr).drop i).headD .unk=zAr (c.V.getD i []):=λi hi=>zBc zAr c.V [] i hi;have hVn:0<c.V.length->c.V.map zAr≠[]:=λh=>zAm h;have hI:∀(l:List Int) j,j<l.length->((l.map λz=>iD z).drop j).headD .unk=iD (l.getD j 0):=λl j hj=>zBc (λz:Int=>iD z) l 0 j hj;have hIn:∀l:List Int,0<l.length->(l.map λz=>iD z)≠[]:=λl h=>zAm h;have hlV:=hf.V;have hlP:=hf.P;have hlt:∀i j,msk (sK c.V i j)<4294967296:=λi j=>zWo sv_lt;obtain⟨z,hz⟩:∃z,AB.wrap (c.n-c.f)=z:=⟨_,rfl⟩;refine zF zA5 mixed Tryz.func3 rfl ?_;focus
  refine vAu<|zA<|vA<|vc zT7<|veT<|vf<|vK<|zA ?_;refine zB rfl<|vr 1 (6<=6)<|vc hm<|ve (0<2/\1<2/\Ab=Ab/\Ad=Ad/\5=5/\5<=5)<|zA<|vA<|vr 1 (6<=6)<|vc h2<|veT<|vf<|vK ?_;refine vAe<|vAe<|zA<|vAe<|zH ?_;rotate_left
 refine zK (λ(i:Nat)=>fr 215 [(1,Ai 0 0),(2,bD Ab),(3,Ai 1 0),(5,iD 0),(6,u32D<|msk<|sK (Cs.V c) i 0),(7,iD i)]) (λ(i:Nat)=>[csB c,inpK c<|.row (ats.flatMap atC) ats.length]) (λ(i:Nat)=>c.V.length-i) (λ(i:Nat)=>i<=c.V.length) 0 ?_ ?_ ?_
 ·omega
 ·rw[sK_0];refine vk 2
 intro i h1;rcases Au i c.V.length with h3|h3
 ·have hv:=hV i h3;have hvn:=hVn (by omega);have hln:(c.V.getD i []).length<=8:=hf.v _ (by rw[Ap,Am h3];exact AI h3);have hend:=sK_end c.V i h3;have hye:=λj=>sK_yes c.V i j;have hno:=λj=>sK_no c.V i j;have hl2:=hlt i;focus
   refine zA<|vAs<|ve (True/\0<2)<|vT ((i:Int)<(Aa (Cs.V c):Int))<|vKB<|vAe ?_;refine zH ?_;rotate_left
  refine zK (λ(j:Nat)=>fr 215 [(1,Ai 0 0),(2,bD Ab),(3,Ai 1 0),(5,iD 0),(6,u32D<|msk<|sK (Cs.V c) i j),(7,iD i),(8,iD j)]) (λ(j:Nat)=>[csB c,inpK c<|.row (ats.flatMap atC) ats.length]) (λ(j:Nat)=>(c.V.getD i []).length-j) (λ(j:Nat)=>j<=(c.V.getD i []).length) 0 ?_ ?_ ?_
  ·omega
  ·refine vk 2
  intro j h4;rcases Au j (c.V.getD i []).length with h5|h5
  ·have hx5:=hI _ j h5;have hy:=hye j h5;have hn:=hno j h5;have hin:=hIn _ (show 0<(c.V.getD i []).length by omega);have hl3:=hl2 j;have hl4:=hl2 (j+1);generalize c.V.getD i []=l at*;generalize l.getD j 0=x at*;by_cases hx0:0<=x
   ·by_cases hx1:x<32
    ·obtain⟨u,rfl⟩:∃u:Nat,x=u:=⟨x.toNat,by omega⟩;rw[hy ⟨hx0,hx1⟩,AJ]at hl4;have h6:=zDn (show u<32 by omega);focus
      refine zA<|vAs<|vr 5 (True/\0<2/\ix ↑i (Aa (Cs.V c):Int) (Ae zAr (Cs.V c)≠[]))<|vp 41 i (Ae zAr<|Cs.V c)<|vr 1 (0<Aa (Ag i<|Ae zAr<|Cs.V c))<|vsh 42 hv<|veT<|vT ((j:Int)<↑(Aa l))<|vK<|zA ?_;refine zH<|vA<|vr 4 (True/\0<2/\ix ↑i (Aa (Cs.V c):Int) (Ae zAr (Cs.V c)≠[]))<|vp 50 i (Ae zAr<|Cs.V c)<|vr 1 (0<Aa (Ag i<|Ae zAr<|Cs.V c))<|vsh 51 hv<|vr 2 (ix ↑j ↑(Aa l) (Ae (λ(z:Int)=>iD z) l≠[]))<|vp 53 j (Ae (λ(z:Int)=>iD z) l)<|vr 1 (0<Aa (Ag j<|Ae (λ(z:Int)=>iD z) l))<|vsh 54 hx5<|vw 6 [] [(9,Ad)] (decide ((u:Int)>=(0:Int))=Ad/\True/\0<2/\ix ↑i (Aa (Cs.V c):Int) (Ae zAr (Cs.V c)≠[]))<|vp 60 i (Ae zAr<|Cs.V c)<|vr 1 (0<Aa (Ag i<|Ae zAr<|Cs.V c)) ?_;refine vsh 61 hv<|vr 2 (ix ↑j ↑(Aa l) (Ae (λ(z:Int)=>iD z) l≠[]))<|vp 63 j (Ae (λ(z:Int)=>iD z) l)<|vr 1 (0<Aa (Ag j<|Ae (λ(z:Int)=>iD z) l))<|vsh 64 hx5<|veT<|vT ((u:Int)<(32:Int))<|zB rfl<|vr 5 (True/\0<2/\ix ↑i (Aa (Cs.V c):Int) (Ae zAr (Cs.V c)≠[]))<|vp 71 i (Ae zAr<|Cs.V c)<|vr 1 (0<Aa (Ag i<|Ae zAr<|Cs.V c))<|vsh 72 hv<|vr 2 (ix ↑j ↑(Aa l) (Ae (λ(z:Int)=>iD z) l≠[]))<|vp 74 j (Ae (λ(z:Int)=>iD z) l) ?_;refine vr 1 (0<Aa (Ag j<|Ae (λ(z:Int)=>iD z) l))<|vsh 75 hx5<|vr 2 (u6 (u:Int)/\(0:Int)<=(u:Int))<|vs 77 (Al<|Aq AT<|AP AT ((1:Int)*(2:Int)^min (Ar (u:Int)) 32)) (dig ((2:Nat)^u)) (by simp(disch:=omega) only[AJ,zDu])<|vrT 1<|vs 78 (Al<|Aq AT<|AP AT (↑(BitVec.toNat (BitVec.ofInt 32 (↑(msk<|sK (Cs.V c) i j):Int)|||BitVec.ofInt 32 (↑((2:Nat)^u):Int))):Int)) (dig (msk (sK (Cs.V c) i j)|||(2:Nat)^u)) (by simp(disch:=omega) only[zMl,zA1])<|vrT 1<|vnil<|zD<|vN<|zB rfl<|vr 3 (i6 (↑j+1))<|vnil ?_;refine zC ?_;rotate_left
     refine⟨j+1,by omega,by omega,?_⟩;rw[hy ⟨hx0,hx1⟩,AJ];refine vk 2
    focus
     refine zA<|vAs<|vr 5 (True/\0<2/\ix ↑i (Aa (Cs.V c):Int) (Ae zAr (Cs.V c)≠[]))<|vp 41 i (Ae zAr<|Cs.V c)<|vr 1 (0<Aa (Ag i<|Ae zAr<|Cs.V c))<|vsh 42 hv<|veT<|vT ((j:Int)<↑(Aa l))<|vK<|zA ?_;refine zH<|vA<|vr 4 (True/\0<2/\ix ↑i (Aa (Cs.V c):Int) (Ae zAr (Cs.V c)≠[]))<|vp 50 i (Ae zAr<|Cs.V c)<|vr 1 (0<Aa (Ag i<|Ae zAr<|Cs.V c))<|vsh 51 hv<|vr 2 (ix ↑j ↑(Aa l) (Ae (λ(z:Int)=>iD z) l≠[]))<|vp 53 j (Ae (λ(z:Int)=>iD z) l)<|vr 1 (0<Aa (Ag j<|Ae (λ(z:Int)=>iD z) l))<|vsh 54 hx5<|vw 6 [] [(9,Ad)] (decide (x>=(0:Int))=Ad/\True/\0<2/\ix ↑i (Aa (Cs.V c):Int) (Ae zAr (Cs.V c)≠[]))<|vp 60 i (Ae zAr<|Cs.V c)<|vr 1 (0<Aa (Ag i<|Ae zAr<|Cs.V c)) ?_;refine vsh 61 hv<|vr 2 (ix ↑j ↑(Aa l) (Ae (λ(z:Int)=>iD z) l≠[]))<|vp 63 j (Ae (λ(z:Int)=>iD z) l)<|vr 1 (0<Aa (Ag j<|Ae (λ(z:Int)=>iD z) l))<|vsh 64 hx5<|veT<|vF (x<(32:Int))<|zQ<|zD<|vN<|zB rfl<|vr 3 (i6 (↑j+1))<|vnil ?_;refine zC ?_;rotate_left
    refine⟨j+1,by omega,by omega,?_⟩;rw[hn (by omega)];refine vk 2
   focus
    refine zA<|vAs<|vr 5 (True/\0<2/\ix ↑i (Aa (Cs.V c):Int) (Ae zAr (Cs.V c)≠[]))<|vp 41 i (Ae zAr<|Cs.V c)<|vr 1 (0<Aa (Ag i<|Ae zAr<|Cs.V c))<|vsh 42 hv<|veT<|vT ((j:Int)<↑(Aa l))<|vK<|zA ?_;refine zH<|vA<|vr 4 (True/\0<2/\ix ↑i (Aa (Cs.V c):Int) (Ae zAr (Cs.V c)≠[]))<|vp 50 i (Ae zAr<|Cs.V c)<|vr 1 (0<Aa (Ag i<|Ae zAr<|Cs.V c))<|vsh 51 hv<|vr 2 (ix ↑j ↑(Aa l) (Ae (λ(z:Int)=>iD z) l≠[]))<|vp 53 j (Ae (λ(z:Int)=>iD z) l)<|vr 1 (0<Aa (Ag j<|Ae (λ(z:Int)=>iD z) l))<|vsh 54 hx5<|vew [] [(9,Ab)] (decide (x>=(0:Int))=Ab)<|vf<|zQ ?_;refine zD<|vN<|zB rfl<|vr 3 (i6 (↑j+1))<|vnil<|zC ?_;rotate_left
   refine⟨j+1,by omega,by omega,?_⟩;rw[hn (by omega)];refine vk 2
  obtain rfl:j=(c.V.getD i []).length:=by omega
  rw[<-hend];generalize c.V.getD i []=l at*;focus
   refine zA<|vAs<|vr 5 (True/\0<2/\ix ↑i (Aa (Cs.V c):Int) (Ae zAr (Cs.V c)≠[]))<|vp 41 i (Ae zAr<|Cs.V c)<|vr 1 (0<Aa (Ag i<|Ae zAr<|Cs.V c))<|vsh 42 hv<|veT<|vF ((Aa l:Int)<↑(Aa l))<|vY2 ?_;refine zD<|vN<|zB rfl<|vr 3 (i6 (↑i+1))<|vnil<|zC ?_;rotate_left
  refine⟨i+1,by omega,by omega,?_⟩;refine vk 2
 obtain rfl:i=c.V.length:=by omega
 rw[sK_all];have hsl:msk (sv c.V.flatten)<4294967296:=zWo sv_lt;generalize hse:msk (sv c.V.flatten)=se at*;focus
  refine zA<|vAs<|ve (True/\0<2)<|vF ((Aa (Cs.V c):Int)<(Aa (Cs.V c):Int))<|vZ2<|vA ?_;refine vw 8 [86] [] (True/\0<3/\True/\0<6/\True/\0<5/\True)<|vs 86 (iD<|AP AB (Cs.n c-Cs.f c)) (iD z) (by simp(disch:=omega) only[hz])<|veT<|zA<|vAe<|zH ?_;rotate_left
 refine zK (λ(i:Nat)=>fr 215 [(1,Ai 0 0),(2,bD Ab),(3,Ai 1 0),(5,iD 0),(6,u32D se),(9,bD<|pm (decide ((Aa (Cs.P c):Int)=z)) (Cs.f c) (Cs.n c) (Cs.P c) i),(10,iD i)]) (λ(i:Nat)=>[csB c,inpK c<|.row (ats.flatMap atC) ats.length]) (λ(i:Nat)=>c.P.length-i) (λ(i:Nat)=>i<=c.P.length) 0 ?_ ?_ ?_
 ·omega
 ·rw[pm_0];refine vk 2
 generalize hb0:decide ((c.P.length:Int)=z)=b0;intro i h3;rcases Au i c.P.length with h4|h4
 ·have hp:=hI _ i h4;have hpn:=hIn _ (show 0<c.P.length by omega);have hs1:=pm_s b0 c.f c.n c.P i h4;have h0:=pmI_0 b0 c.f c.n c.P i;have hss:=pmI_s b0 c.f c.n c.P i;by_cases hg:pmI b0 c.f c.n c.P i 0=Ad
  ·have hg2:=hg;rw[h0]at hg2;simp only[Bool.and_eq_true,decide_eq_true_eq]at hg2;obtain⟨⟨g1,g2⟩,g3⟩:=hg2;rw[g1];focus
    refine zA<|vAs<|ve (True/\0<3)<|vT ((i:Int)<(Aa (Cs.P c):Int))<|vKB<|zA<|vd [0,1,2,4,7,3,5,6,8,9,10,11,12,14,17,13,15,16,18,19,20,21]<|vr 7 (True/\True/\0<3/\ix ↑i (Aa (Cs.P c):Int) (Ae (λ(z:Int)=>iD z) (Cs.P c)≠[])) ?_;refine vp 100 i (Ae (λ(z:Int)=>iD z)<|Cs.P c)<|vr 1 (0<Aa (Ag i<|Ae (λ(z:Int)=>iD z)<|Cs.P c))<|vsh 101 hp<|vw 9 [] [(11,Ad)] (0<5/\decide (AG (Cs.P c) i (0:Int)>=Cs.f c)=Ad/\True/\True/\0<3/\ix ↑i (Aa (Cs.P c):Int) (Ae (λ(z:Int)=>iD z) (Cs.P c)≠[])) (vp 110 i (Ae (λ(z:Int)=>iD z)<|Cs.P c)<|vr 1 (0<Aa (Ag i<|Ae (λ(z:Int)=>iD z)<|Cs.P c))<|vsh 111 hp<|ve (0<6)<|vAe<|zH ?_) ⟨(by omega),(by exact decide_eq_true (by omega)),trivial,trivial,(by omega),⟨(by omega),⟨(by omega),(by assumption)⟩⟩⟩;rotate_left
   refine zK (λ(k:Nat)=>fr 215 [(1,Ai 0 0),(2,bD Ab),(3,Ai 1 0),(5,iD 0),(6,u32D se),(9,bD<|pmI b0 (Cs.f c) (Cs.n c) (Cs.P c) i k),(10,iD i),(11,iD k)]) (λ(k:Nat)=>[csB c,inpK c<|.row (ats.flatMap atC) ats.length]) (λ(k:Nat)=>i-k) (λ(k:Nat)=>k<=i) 0 ?_ ?_ ?_
   ·omega
   ·rw[hg];refine wkn (fr 215 [(1,Ai 0 0),(2,bD Ab),(3,Ai 1 0),(5,iD 0),(6,u32D se),(9,bD (decide (AG (Cs.P c) i (0:Int)<Cs.n c))),(10,iD ↑i),(11,iD 0)]) [csB c,inpK c (Ah (Ay atC ats) (Aa ats))] (zDj [(1,1),(2,1),(3,1),(5,1),(6,1),(9,1),(10,1),(11,1)] (Ai 0 0=Ai 0 0/\bD Ab=bD Ab/\Ai 1 0=Ai 1 0/\iD 0=iD 0/\u32D se=u32D se/\bD (decide (AG (Cs.P c) i (0:Int)<Cs.n c))=bD Ad/\iD ↑i=iD ↑i/\iD 0=iD ↑(0:Nat)) 2 [] ⟨rfl,rfl,rfl,rfl,rfl,?_,rfl,(by kernel_rfl)⟩ (λ_ _=>rfl));exact congrArg bD (decide_eq_true g3)
   intro k h5;rcases Au k i with h6|h6
   ·have hpk:=hI _ k (show k<c.P.length by omega);have hsk:=hss k;cases hq:pmI b0 c.f c.n c.P i k with
    | false=>
     rw[hq,Bool.false_and]at hsk;focus
      refine zA<|vAu<|vT ((k:Int)<↑i)<|vKB<|vd [0,1,2,4,7,9,3,5,6,8,10,11,12,13,14]<|vrT 15<|vnil ?_;refine zD<|vN<|zB rfl<|vr 3 (i6 (↑k+1))<|vnil<|zC ?_;rotate_left
     refine⟨k+1,by omega,by omega,?_⟩;rw[hsk];refine vk 2
    | true=>
     rw[hq,A6]at hsk;focus
      refine zA<|vAu<|vT ((k:Int)<↑i)<|vKB<|vd [0,1,2,4,7,9,3,5,6,8,10,11,12,13,14]<|vr 8 (True/\True/\0<3/\ix ↑i (Aa (Cs.P c):Int) (Ae (λ(z:Int)=>iD z) (Cs.P c)≠[]))<|vp 126 i (Ae (λ(z:Int)=>iD z)<|Cs.P c) ?_;refine vr 1 (0<Aa (Ag i<|Ae (λ(z:Int)=>iD z)<|Cs.P c))<|vsh 127 hp<|vr 2 (0<3/\ix ↑k (Aa (Cs.P c):Int) (Ae (λ(z:Int)=>iD z) (Cs.P c)≠[]))<|vp 131 k (Ae (λ(z:Int)=>iD z)<|Cs.P c)<|vr 1 (0<Aa (Ag k<|Ae (λ(z:Int)=>iD z)<|Cs.P c))<|vsh 132 hpk<|vrT 3<|vnil<|zD<|vN<|zB rfl<|vr 3 (i6 (↑k+1))<|vnil ?_;refine zC ?_;rotate_left
     refine⟨k+1,by omega,by omega,?_⟩;rw[hsk];refine vk 2
   obtain rfl:k=i:=by omega
   rw[<-hs1];focus
    refine zA<|vAu<|vF ((k:Int)<↑k)<|vY2<|zD<|vN<|zB rfl ?_;refine vr 3 (i6 (↑k+1))<|vnil<|zC ?_;rotate_left
   refine⟨k+1,by omega,by omega,?_⟩;refine vk 2
  have hg3:pmI b0 c.f c.n c.P i 0=false:=by simpa using hg
  have hf0:∀k,pmI b0 c.f c.n c.P i k=false:=λk=>by
   induction k with
   |zero=>exact hg3
   |succ k ih=>rw[hss,ih];rfl
  rw[hf0]at hs1;have hcs:pm b0 c.f c.n c.P i=Ab\/pm b0 c.f c.n c.P i=Ad/\c.P.getD i 0<c.f\/pm b0 c.f c.n c.P i=Ad/\c.f<=c.P.getD i 0/\c.n<=c.P.getD i 0:=by
   rw[h0]at hg3;cases hq:pm b0 c.f c.n c.P i with
   |false=>exact .inl rfl
   |true=>
    rw[hq]at hg3;rw[A6,Bool.and_eq_false_iff,decide_eq_false_iff_not,decide_eq_false_iff_not]at hg3;by_cases g4:c.f<=c.P.getD i 0
    ·exact .inr (.inr ⟨rfl,g4,by rcases hg3 with h|h<;>omega⟩)
    exact .inr (.inl ⟨rfl,by omega⟩)
  rcases hcs with hq|⟨hq,g4⟩|⟨hq,g4,g5⟩
  ·rw[hq];focus
    refine zA<|vAs<|ve (True/\0<3)<|vT ((i:Int)<(Aa (Cs.P c):Int))<|vKB<|zA<|vd [0,1,2,4,7,3,5,6,8,9,10,11,12,14,17,13,15,16,18,19,20,21]<|veT ?_;refine vAe<|zH ?_;rotate_left
   refine zK (λ(k:Nat)=>fr 215 [(1,Ai 0 0),(2,bD Ab),(3,Ai 1 0),(5,iD 0),(6,u32D se),(9,bD Ab),(10,iD i),(11,iD k)]) (λ(k:Nat)=>[csB c,inpK c<|.row (ats.flatMap atC) ats.length]) (λ(k:Nat)=>i-k) (λ(k:Nat)=>k<=i) 0 ?_ ?_ ?_
   ·omega
   ·refine vk 2
   intro k h5;rcases Au k i with h6|h6
   ·focus
     refine zA<|vAu<|vT ((k:Int)<↑i)<|vKB<|vd [0,1,2,4,7,9,3,5,6,8,10,11,12,13,14]<|vrT 15<|vnil ?_;refine zD<|vN<|zB rfl<|vr 3 (i6 (↑k+1))<|vnil<|zC ?_;rotate_left
    refine⟨k+1,by omega,by omega,?_⟩;refine vk 2
   obtain rfl:k=i:=by omega
   focus
    refine zA<|vAu<|vF ((k:Int)<↑k)<|vY2<|zD<|vN<|zB rfl ?_;refine vr 3 (i6 (↑k+1))<|vnil<|zC ?_;rotate_left
   refine⟨k+1,by omega,by omega,?_⟩;rw[hs1];refine vk 2
  ·rw[hq];focus
    refine zA<|vAs<|ve (True/\0<3)<|vT ((i:Int)<(Aa (Cs.P c):Int))<|vKB<|zA<|vd [0,1,2,4,7,3,5,6,8,9,10,11,12,14,17,13,15,16,18,19,20,21]<|vr 7 (True/\True/\0<3/\ix ↑i (Aa (Cs.P c):Int) (Ae (λ(z:Int)=>iD z) (Cs.P c)≠[])) ?_;refine vp 100 i (Ae (λ(z:Int)=>iD z)<|Cs.P c)<|vr 1 (0<Aa (Ag i<|Ae (λ(z:Int)=>iD z)<|Cs.P c))<|vsh 101 hp<|vew [] [(11,Ab)] (0<5/\decide (AG (Cs.P c) i (0:Int)>=Cs.f c)=Ab) (vAe<|zH ?_) ⟨(by omega),(by exact decide_eq_false (by omega))⟩;rotate_left
   refine zK (λ(k:Nat)=>fr 215 [(1,Ai 0 0),(2,bD Ab),(3,Ai 1 0),(5,iD 0),(6,u32D se),(9,bD Ab),(10,iD i),(11,iD k)]) (λ(k:Nat)=>[csB c,inpK c<|.row (ats.flatMap atC) ats.length]) (λ(k:Nat)=>i-k) (λ(k:Nat)=>k<=i) 0 ?_ ?_ ?_
   ·omega
   ·refine vk 2
   intro k h5;rcases Au k i with h6|h6
   ·focus
     refine zA<|vAu<|vT ((k:Int)<↑i)<|vKB<|vd [0,1,2,4,7,9,3,5,6,8,10,11,12,13,14]<|vrT 15<|vnil ?_;refine zD<|vN<|zB rfl<|vr 3 (i6 (↑k+1))<|vnil<|zC ?_;rotate_left
    refine⟨k+1,by omega,by omega,?_⟩;refine vk 2
   obtain rfl:k=i:=by omega
   focus
    refine zA<|vAu<|vF ((k:Int)<↑k)<|vY2<|zD<|vN<|zB rfl ?_;refine vr 3 (i6 (↑k+1))<|vnil<|zC ?_;rotate_left
   refine⟨k+1,by omega,by omega,?_⟩;rw[hs1];refine vk 2
  rw[hq];focus
   refine zA<|vAs<|ve (True/\0<3)<|vT ((i:Int)<(Aa (Cs.P c):Int))<|vKB<|zA<|vd [0,1,2,4,7,3,5,6,8,9,10,11,12,14,17,13,15,16,18,19,20,21]<|vr 7 (True/\True/\0<3/\ix ↑i (Aa (Cs.P c):Int) (Ae (λ(z:Int)=>iD z) (Cs.P c)≠[])) ?_;refine vp 100 i (Ae (λ(z:Int)=>iD z)<|Cs.P c)<|vr 1 (0<Aa (Ag i<|Ae (λ(z:Int)=>iD z)<|Cs.P c))<|vsh 101 hp<|vw 9 [] [(11,Ad)] (0<5/\decide (AG (Cs.P c) i (0:Int)>=Cs.f c)=Ad/\True/\True/\0<3/\ix ↑i (Aa (Cs.P c):Int) (Ae (λ(z:Int)=>iD z) (Cs.P c)≠[])) (vp 110 i (Ae (λ(z:Int)=>iD z)<|Cs.P c)<|vr 1 (0<Aa (Ag i<|Ae (λ(z:Int)=>iD z)<|Cs.P c))<|vsh 111 hp<|ve (0<6)<|vAe<|zH ?_) ⟨(by omega),(by exact decide_eq_true (by omega)),trivial,trivial,(by omega),⟨(by omega),⟨(by omega),(by assumption)⟩⟩⟩;rotate_left
  refine zK (λ(k:Nat)=>fr 215 [(1,Ai 0 0),(2,bD Ab),(3,Ai 1 0),(5,iD 0),(6,u32D se),(9,bD Ab),(10,iD i),(11,iD k)]) (λ(k:Nat)=>[csB c,inpK c<|.row (ats.flatMap atC) ats.length]) (λ(k:Nat)=>i-k) (λ(k:Nat)=>k<=i) 0 ?_ ?_ ?_
  ·omega
  ·refine wkn (fr 215 [(1,Ai 0 0),(2,bD Ab),(3,Ai 1 0),(5,iD 0),(6,u32D se),(9,bD (decide (AG (Cs.P c) i (0:Int)<Cs.n c))),(10,iD (↑i:Int)),(11,iD 0)]) [csB c,inpK c (Ah (Ay atC ats) (Aa ats))] (zDj [(1,1),(2,1),(3,1),(5,1),(6,1),(9,1),(10,1),(11,1)] (Ai 0 0=Ai 0 0/\bD Ab=bD Ab/\Ai 1 0=Ai 1 0/\iD 0=iD 0/\u32D se=u32D se/\bD (decide (AG (Cs.P c) i (0:Int)<Cs.n c))=bD Ab/\iD (↑i:Int)=iD (↑i:Int)/\iD 0=iD (↑(0:Nat):Int)) 2 [] ⟨rfl,rfl,rfl,rfl,rfl,?_,rfl,(by kernel_rfl)⟩ (λ_ _=>rfl));exact congrArg bD (decide_eq_false (by omega))
  intro k h5;rcases Au k i with h6|h6
  ·focus
    refine zA<|vAu<|vT ((k:Int)<↑i)<|vKB<|vd [0,1,2,4,7,9,3,5,6,8,10,11,12,13,14]<|vrT 15<|vnil ?_;refine zD<|vN<|zB rfl<|vr 3 (i6 (↑k+1))<|vnil<|zC ?_;rotate_left
   refine⟨k+1,by omega,by omega,?_⟩;refine vk 2
  obtain rfl:k=i:=by omega
  focus
   refine zA<|vAu<|vF ((k:Int)<↑k)<|vY2<|zD<|vN<|zB rfl ?_;refine vr 3 (i6 (↑k+1))<|vnil<|zC ?_;rotate_left
  refine⟨k+1,by omega,by omega,?_⟩;rw[hs1];refine vk 2
 obtain rfl:i=c.P.length:=by omega
 rw[pm_all];have hzf:=zfree_c;have hzt:=ztotal_c;have hzb:=bits0_c;unfold icE at he;by_cases r1:c.n<0\/32<c.n\/c.f<0\/c.n<c.f
 ·rw[if_pos r1]at he;subst he;obtain⟨rfl,rfl⟩:=hx.resolve_left (λhh=>absurd hh.1 (by decide));focus
   refine zA<|vAs<|ve (True/\0<3)<|vF ((Aa (Cs.P c):Int)<(Aa (Cs.P c):Int))<|vZ2<|zA<|zA ?_;refine zB rfl<|vr 4 (True/\0<6) ?_;refine vsp 138 (decide (Cs.n c<0)) (λhc=>?_)<|λhc=>?_;simp only[decide_eq_true_eq]at hc;refine veT<|vt<|zB rfl<|veT<|vA<|vr 1 (5<=5)<|vc hb<|ve (0<3/\1<3/\2<3/\Ab=Ab/\Ad=Ad/\5=5/\5<=5)<|vA<|vr 1 (5<=5)<|vc hck<|vr 15 (True/\True/\True/\True/\5<=5) ?_;refine vc hzf<|vr 4 (True/\5<=5)<|vc hzt<|vc hzb<|veT<|zE<|vret (True)<|.inr rfl;simp only[decide_eq_false_iff_not]at hc;refine vr 5 (True/\0<6) ?_;refine vsp 143 (decide (Cs.n c>(32:Int))) (λhc=>?_)<|λhc=>?_;simp only[decide_eq_true_eq]at hc;refine veT<|vt<|zB rfl<|veT<|vA<|vr 1 (5<=5)<|vc hb<|ve (0<3/\1<3/\2<3/\Ab=Ab/\Ad=Ad/\5=5/\5<=5)<|vA<|vr 1 (5<=5)<|vc hck<|vr 15 (True/\True/\True/\True/\5<=5) ?_;refine vc hzf<|vr 4 (True/\5<=5)<|vc hzt<|vc hzb<|veT<|zE<|vret (True)<|.inr rfl;simp only[decide_eq_false_iff_not]at hc;refine vr 5 (True/\0<5) ?_;refine vsp 148 (decide (Cs.f c<0)) (λhc=>?_)<|λhc=>?_;simp only[decide_eq_true_eq]at hc;refine veT<|vt<|zB rfl<|veT<|vA<|vr 1 (5<=5)<|vc hb<|ve (0<3/\1<3/\2<3/\Ab=Ab/\Ad=Ad/\5=5/\5<=5)<|vA<|vr 1 (5<=5)<|vc hck<|vr 15 (True/\True/\True/\True/\5<=5) ?_;refine vc hzf<|vr 4 (True/\5<=5)<|vc hzt<|vc hzb<|veT<|zE<|vret (True)<|.inr rfl;simp only[decide_eq_false_iff_not]at hc;refine ve (True/\0<5/\True/\0<6)<|vT (Cs.f c>Cs.n c)<|zB rfl<|veT<|vA<|vr 1 (5<=5)<|vc hb<|ve (0<3/\1<3/\2<3/\Ab=Ab/\Ad=Ad/\5=5/\5<=5)<|vA<|vr 1 (5<=5)<|vc hck<|vr 15 (True/\True/\True/\True/\5<=5) ?_;refine vc hzf<|vr 4 (True/\5<=5)<|vc hzt<|vc hzb<|veT<|zE<|vret (True)<|.inr rfl
 rw[if_neg r1]at he;have hw:AB.wrap (c.n-c.f)=c.n-c.f:=zVg (by omega) (by omega);rw[hw]at hz;subst hz;by_cases r2:(c.desc.length:Int)≠c.f
 ·rw[if_pos (.inl r2)]at he;subst he;obtain⟨rfl,rfl⟩:=hx.resolve_left (λhh=>absurd hh.1 (by decide));focus
   refine zA<|vAs<|ve (True/\0<3)<|vF ((Aa (Cs.P c):Int)<(Aa (Cs.P c):Int))<|vZ2<|zA<|zA ?_;refine zB rfl<|vew [] [(3,Ab),(8,Ab),(13,Ab)] (True/\0<6/\decide (Cs.n c<0)=Ab/\True/\0<6/\decide (Cs.n c>(32:Int))=Ab/\True/\0<5/\decide (Cs.f c<0)=Ab/\True/\0<5/\True/\0<6)<|vF (Cs.f c>Cs.n c)<|vA<|vew [] [(6,Ad)] (True/\0<4/\True/\0<5/\True/\((Aa (Cs.desc c):Int)!=Cs.f c)=Ad)<|vt<|zB rfl<|veT<|vA<|vr 1 (5<=5)<|vc hb<|ve (0<3/\1<3/\2<3/\Ab=Ab/\Ad=Ad/\5=5/\5<=5) ?_;refine vA<|vr 1 (5<=5)<|vc hck<|vr 15 (True/\True/\True/\True/\5<=5)<|vc hzf<|vr 4 (True/\5<=5)<|vc hzt<|vc hzb<|veT<|zE<|vret (True)<|.inr rfl
 by_cases r3:(c.P.length:Int)≠c.n-c.f\/pany c.f c.n c.P=Ad
 ·have he1:e=1:=by
   by_cases r4:(c.P.length:Int)≠c.n-c.f
   ·rw[he,if_pos (.inr r4)]
   rw[he,if_neg (by omega),if_pos (r3.resolve_left r4)]
  have hbf:(b0&&!pany c.f c.n c.P)=false:=by
   rcases r3 with r4|r4
   ·rw[<-hb0,decide_eq_false r4];rfl
   rw[r4];simp
  rw[hbf];subst he1;obtain⟨rfl,rfl⟩:=hx.resolve_left (λhh=>absurd hh.1 (by decide));focus
   refine zA<|vAs<|ve (True/\0<3)<|vF ((Aa (Cs.P c):Int)<(Aa (Cs.P c):Int))<|vZ2<|zA<|zA ?_;refine zB rfl<|vew [] [(3,Ab),(8,Ab),(13,Ab)] (True/\0<6/\decide (Cs.n c<0)=Ab/\True/\0<6/\decide (Cs.n c>(32:Int))=Ab/\True/\0<5/\decide (Cs.f c<0)=Ab/\True/\0<5/\True/\0<6)<|vF (Cs.f c>Cs.n c)<|vA<|vew [] [(6,Ab)] (True/\0<4/\True/\0<5/\True/\((Aa (Cs.desc c):Int)!=Cs.f c)=Ab)<|vt<|zB rfl<|veT<|vA<|vr 1 (5<=5)<|vc hb<|ve (0<3/\1<3/\2<3/\Ab=Ab/\Ad=Ad/\5=5/\5<=5) ?_;refine vA<|vr 1 (5<=5)<|vc hck<|vr 15 (True/\True/\True/\True/\5<=5)<|vc hzf<|vr 4 (True/\5<=5)<|vc hzt<|vc hzb<|veT<|zE<|vret (True)<|.inr rfl
 have hbt:(b0&&!pany c.f c.n c.P)=true:=by
  rw[<-hb0,decide_eq_true (by omega)];simp only[A6,A5];exact Bool.eq_false_iff.2 λh=>r3 (.inr h)
 rw[hbt];rw[if_neg (by omega),if_neg (λh=>r3 (.inr h))]at he;have hlf:=hl (by omega) (by omega);rw[<-he]at hlf;have hsn2:=hsn (by omega) (by omega);rw[<-he]at hsn2;rcases hx with⟨hx,y1,y2,y3,y4,y5,rfl⟩|⟨rfl,rfl⟩
 ·subst hx;have hsn3:=hsn2 rfl;obtain⟨u,hu⟩:∃u:Nat,c.n=u:=⟨c.n.toNat,by omega⟩;have hun:c.n.toNat=u:=by omega
  rw[hun]at hsn3;have hu6:u<=6:=by have:=hf.n;omega
  have hp2:2^u<=64:=show 2^u<=2^6 from AH (by omega) hu6
  have hp1:0<2^u:=Nat.two_pow_pos u;have hw1:AC.wrap (1*2^min c.n.toNat 64)=((2^u:Nat):Int):=by
   rw[show min c.n.toNat 64=u by omega,Int.one_mul,show((2:Int)^u)=((2^u:Nat):Int)from(Int.natCast_pow 2 u).symm];exact zVf (by omega) (by omega)
  generalize 2^u=t at*;focus
   refine zA<|vAs<|ve (True/\0<3)<|vF ((Aa (Cs.P c):Int)<(Aa (Cs.P c):Int))<|vZ2<|zA<|zA ?_;refine zB rfl<|vew [] [(3,Ab),(8,Ab),(13,Ab)] (True/\0<6/\decide (Cs.n c<0)=Ab/\True/\0<6/\decide (Cs.n c>(32:Int))=Ab/\True/\0<5/\decide (Cs.f c<0)=Ab/\True/\0<5/\True/\0<6)<|vF (Cs.f c>Cs.n c)<|vA<|vew [] [(6,Ab)] (True/\0<4/\True/\0<5/\True/\((Aa (Cs.desc c):Int)!=Cs.f c)=Ab)<|vf<|vA<|vr 4 (True/\0<6/\True/\0<1)<|vc hlf<|veT<|vA ?_;refine veT<|vf<|vA<|vr 5 (True/\0<6/\u6 (Cs.n c)/\(0:Int)<=Cs.n c)<|vs 177 (Al<|Aq AC<|AP AC ((1:Int)*(2:Int)^min (Ar<|Cs.n c) 64)) (Al<|Aq AC (t:Int)) (by simp(disch:=omega) only[hw1])<|ve (u6 (↑t-1)/\u3 (↑t-1)/\True)<|zEv (t:=(se:Int)!=↑t-(1:Int)) (by kernel_rfl) (by simpa using by omega)<|vK<|vA<|vr 1 (5<=5) ?_;refine vc hb<|ve (0<3/\1<3/\2<3/\Ab=Ab/\Ad=Ad/\5=5/\5<=5)<|vA<|vr 1 (5<=5)<|vc hck<|ve (True/\True/\True)<|zE<|vret (True)<|.inr rfl
 by_cases hez:e=0
 ·subst hez;have hsn3:=hsn2 rfl;obtain⟨u,hu⟩:∃u:Nat,c.n=u:=⟨c.n.toNat,by omega⟩;have hun:c.n.toNat=u:=by omega
  rw[hun]at hsn3;have hu6:u<=6:=by have:=hf.n;omega
  have hp2:2^u<=64:=show 2^u<=2^6 from AH (by omega) hu6
  have hp1:0<2^u:=Nat.two_pow_pos u;have hw1:AC.wrap (1*2^min c.n.toNat 64)=((2^u:Nat):Int):=by
   rw[show min c.n.toNat 64=u by omega,Int.one_mul,show((2:Int)^u)=((2^u:Nat):Int)from(Int.natCast_pow 2 u).symm];exact zVf (by omega) (by omega)
  generalize 2^u=t at*;focus
   refine zA<|vAs<|ve (True/\0<3)<|vF ((Aa (Cs.P c):Int)<(Aa (Cs.P c):Int))<|vZ2<|zA<|zA ?_;refine zB rfl<|vew [] [(3,Ab),(8,Ab),(13,Ab)] (True/\0<6/\decide (Cs.n c<0)=Ab/\True/\0<6/\decide (Cs.n c>(32:Int))=Ab/\True/\0<5/\decide (Cs.f c<0)=Ab/\True/\0<5/\True/\0<6)<|vF (Cs.f c>Cs.n c)<|vA<|vew [] [(6,Ab)] (True/\0<4/\True/\0<5/\True/\((Aa (Cs.desc c):Int)!=Cs.f c)=Ab)<|vf<|vA<|vr 4 (True/\0<6/\True/\0<1)<|vc hlf<|veT<|vA ?_;refine veT<|vf<|vA<|vr 5 (True/\0<6/\u6 (Cs.n c)/\(0:Int)<=Cs.n c)<|vs 177 (Al<|Aq AC<|AP AC ((1:Int)*(2:Int)^min (Ar<|Cs.n c) 64)) (Al<|Aq AC (t:Int)) (by simp(disch:=omega) only[hw1])<|ve (u6 (↑t-1)/\u3 (↑t-1)/\True)<|zEv (t:=(se:Int)!=↑t-(1:Int)) (by kernel_rfl) (by simpa using by omega)<|vK<|vA<|vr 1 (5<=5) ?_;refine vc hb<|ve (0<3/\1<3/\2<3/\Ab=Ab/\Ad=Ad/\5=5/\5<=5)<|vA<|vr 1 (5<=5)<|vc hck<|ve (True/\True/\True)<|zE<|vret (True)<|.inr rfl
 focus
  refine zA<|vAs<|ve (True/\0<3)<|vF ((Aa (Cs.P c):Int)<(Aa (Cs.P c):Int))<|vZ2<|zA<|zA ?_;refine zB rfl<|vew [] [(3,Ab),(8,Ab),(13,Ab)] (True/\0<6/\decide (Cs.n c<0)=Ab/\True/\0<6/\decide (Cs.n c>(32:Int))=Ab/\True/\0<5/\decide (Cs.f c<0)=Ab/\True/\0<5/\True/\0<6)<|vF (Cs.f c>Cs.n c)<|vA<|vew [] [(6,Ab)] (True/\0<4/\True/\0<5/\True/\((Aa (Cs.desc c):Int)!=Cs.f c)=Ab)<|vf<|vA<|vr 4 (True/\0<6/\True/\0<1)<|vc hlf<|veT<|vA ?_;refine veT<|zEu (t:=e !=(0:Int)) (by kernel_rfl) (by simpa using by omega)<|zB rfl<|veT<|vA<|vr 1 (5<=5)<|vc hb<|ve (0<3/\1<3/\2<3/\Ab=Ab/\Ad=Ad/\5=5/\5<=5)<|vA<|vr 1 (5<=5)<|vc hck<|vw 15 [] [(4,Ad),(9,Ad),(12,Ab)] (True/\(e==e)=Ad/\True/\(e==e)=Ad/\True/\(e==(0:Int))=Ab/\True/\5<=5) ?_;refine vc hzf<|vr 4 (True/\5<=5)<|vc hzt<|vc hzb<|veT<|zE<|vret (True)<|.inr rfl
end
theorem checksNo(c:Cs)(ats:List At)(ok b:Bool)(h:ok=Ab\/b=Ab)
  (h1:Pure Af 12 [.agg (csC c)] [] (.tup [inpD c.n c.f c.desc c.P ats,bD ok]))
  (h2:Pure Af 13 [.agg (csC c)] [] (bD b)):Pure Af 3 [.agg (csC c)] [] (bD Ad):=by
 cases b
 ·refine zF zA5 mixed Tryz.func3 rfl ?_;focus
   refine vAu<|zA<|vA<|vc zT7<|veT<|vf<|vK<|zA ?_;refine zB rfl<|vr 1 (6<=6)<|vc h1<|ve (0<2/\1<2/\Ab=Ab/\Ad=Ad/\5=5/\5<=5)<|zA<|vA<|vr 1 (6<=6)<|vc h2<|veT<|vt<|vAe ?_;refine zE<|zG<|vret (True)<|.inr rfl
 obtain rfl:ok=false:=by simpa using h
 refine zF zA5 mixed Tryz.func3 rfl ?_;focus
  refine vAu<|zA<|vA<|vc zT7<|veT<|vf<|vK<|zA ?_;refine zB rfl<|vr 1 (6<=6)<|vc h1<|ve (0<2/\1<2/\Ab=Ab/\Ad=Ad/\5=5/\5<=5)<|zA<|vA<|vr 1 (6<=6)<|vc h2<|veT<|vt<|vAe ?_;refine zE<|zG<|vret (True)<|.inr rfl
theorem zYy(c:Cs)(h:c.Small)(ht:c.Typ):Pure Af 3 [.agg (csC c)] [] (bD Ad):=by
 obtain⟨b,hb,hfew⟩:=few_c c h;obtain⟨m,ok,_,_,h1,h3,h4⟩:=make_c c h;by_cases hn:ok=Ab\/b=Ab
 ·exact checksNo c _ ok b hn h4 hfew
 obtain⟨rfl,rfl⟩:ok=Ad/\b=true:=by simpa using hn
 obtain⟨hl,he⟩:=h1.1 rfl;obtain rfl:=h3 rfl;have hf:=hb rfl;have hv:=Cs.ats_v h (Ax c.V.length);have hck:=zJt c h (Ax c.V.length);have hsn:0<=c.n->c.n<=32->lfE c.n (c.ats c.V.length)=0->msk (sv c.V.flatten)=2^c.n.toNat-1:=λh0 h32 hlf=>by
  obtain⟨u,hu⟩:∃u:Nat,c.n=u:=⟨c.n.toNat,by omega⟩;rw[hu]at hlf⊢;rw[AJ];refine zZ4 (by omega) ?_ hlf;apply List.ext_getElem (by simp[Cs.ats]);intro i i1 i2;simp[Cs.ats,Cs.at,i2]
 by_cases e0:icE c.n c.f c.desc.length c.P (c.ats c.V.length)=0
 ·obtain⟨S,s1,s2,s3⟩:=zP6 c h hl he e0 hf ht;exact checksW c _ 0 _ _ h hf h4 hfew (λh0 h32=>zTd c.n _ h0 h32 hv) e0.symm s3 (e0▸hck) (.inl ⟨rfl,_,_,_,_,_,rfl⟩) hsn
 exact checksW c _ _ _ _ h hf h4 hfew (λh0 h32=>zTd c.n _ h0 h32 hv) rfl (buildE_c _ _ _ _ _ _ e0 hck) hck (.inr ⟨rfl,rfl⟩) hsn
end
end Go.Proofs.YtjcofbkhoeockaaGreatDoor
