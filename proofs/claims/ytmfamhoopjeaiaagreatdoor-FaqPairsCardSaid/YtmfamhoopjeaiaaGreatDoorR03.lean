/- Texts of this claim, joined. -/
import Derived.Test.YtmfamhoopjeaiaaGreatDoorR02
import Derived.Test.YtmfamhoopjeaiaaGreatDoorProg
import Derived.Shelf.Spec.SlicesGrow
import Derived.Ground.Names8Prog
import Derived.Lib.RowBridge
import Derived.Lib.AppendZeros
set_option linter.unusedVariables false
set_option linter.unusedSimpArgs false
namespace Go.Proofs.YtmfamhoopjeaiaaGreatDoor
open _root_.List renaming length->Aa,map->Ad,getD->Af,drop->Ag,take->Am,flatMap->As,getD_eq_getElem?_getD->Au,range->Av,take_of_length_le->AA,getElem?_eq_getElem->AC,mem_map->AD,length_map->AG,headD->AJ,drop_zero->AY,getElem_mem->AZ,map_map->A4,mem_filter->A7,length_append->A8,length_filter_le->A9,all_eq_true->Bc,map_cons->Bf,mem_cons->Bg,take_succ_eq_append_getElem->Bh,all->Bi,getElem?_eq_some_iff->Bj,length_cons->Bq,append_nil->Bs,getElem?_append_left->Bt,filter_congr->Bv,mem_cons_of_mem->BB,map_congr_left->BC,getElem?_take->BD,take_length->BF,eq_nil_of_length_eq_zero->BG,append_assoc->BI,getElem?_set_ne->BJ,idxOf_lt_length_iff->BN,flatMap_cons->BO,filter_map->BP,map_nil->BQ,mem_of_mem_take->BR,length_nil->BS,mem_of_getElem?->BT,length_drop->BV,getElem?_append_right->BY,foldl_append->B0,ext_getElem->B1,sum_cons->B2,mem_singleton->B3,map_append->B4,all_map->B5,mem_cons_self->B6,filter_append->B7,length_take->B_,set->Ca,flatMap_append->Cb,getElem?_map->Cd,foldl_cons->Ce,ext_getElem?->Cl,take_succ_cons->Cm,foldl_nil->Cn,idxOf_cons->Cr,replicate->Cv,drop_left'->Cx,mem_range->Cy,filter_cons->Cz,filter_nil->CA,nodup_nil->CB,getElem?_set_self->CC,getElem?_eq_none->CD,length_set->CE,mem_iff_getElem->CF,drop_eq_getElem_cons->CG,findIdx?_eq_none_iff->CH,findIdx?_eq_some_iff_getElem->CI,take_append_of_le_length->CJ
open _root_.Bool renaming true->Ab,false->Ac,and_eq_true->A6,eq_iff_iff->BA,or_eq_true->BK,false_eq_true->BM,not_eq_true'->Ci,not_eq_false'->Cs
open D renaming row->Ae,osl->Ah,own->Ai,agg->Ar,val->Ay,clo->AS,mref->Ba,ifc->Bl
open _root_.Option renaming some->Aj,none->Aq,isNone->Bm,getD->Bn,getD_some->BW,map_some->BX,some->Cf
open _root_.Inhabited renaming default->Ak
open _root_.Go.Proofs.Tryz renaming prog->Al,func231->Cc,func143->Ck
open Bk renaming mk->An,kd->Ax,cells->Az,ty->AM,sz->AN,arr->AV,fz->A_
open Kd renaming plain->Ao,isMap->AK,isSh->AL
open _root_.BitVec renaming ofInt->Ap,toNat->AH
open Value renaming string->Aw,int->AI,slice->A3,agg->BZ,bool->B9
open IntKind renaming u32->AB,wrap->A1,u8->Bu,i64->BE
open _root_.Prod renaming fst->AE,snd->A0
open _root_.Nat renaming lt_or_ge->AF,mul_one->AW,le_trans->AX,le_refl->A2,zero_le->Bw,zero_add->BH,succ_mul->B8,le_of_eq->Cg,testBit->Ch,eq_zero_or_pos->Cj,lt_of_lt_of_le->Ct,lt_of_le_of_lt->Cu
open TypeInfo renaming desc->AO,mk->AP
open TypeDesc renaming string->AQ
open _root_.ByteArray renaming mk->AR,toList->Co
open _root_.Int renaming fdiv->AT,toNat->A5,toNat_natCast->Br
open Fa renaming A->AU
open Weak renaming nilC->Bb
open Va renaming str->Bd,kind->Bo,int->Bp
open Lib renaming bitLen->Bx,compareBytes->BL,run_eql_slice_nil->Cq
open LeL renaming refl->By
open _root_.Array renaming toArray_toList->BU,size_append->Cp
section
open Go.RowKit
section
variable {α : Type} [Inhabited α]
theorem zJe{f:α->α->α}{r:Rw}{v:α}:∀{l:List (Rw×α)},(addT f r v l).map (·.2)=if r∈l.map (·.1)then(l.map (·.2)).set ((l.map (·.1)).idxOf r) (f ((l.map (·.2)).getD ((l.map (·.1)).idxOf r) Ak) v)else l.map (·.2)++[v]
 |[]=>rfl
 | (s,u)::l=>by
  simp only[addT];by_cases e:s=r
  ·subst e;simp
  have ih:=zJe (f:=f) (r:=r) (v:=v) (l:=l);rw[if_neg e,Bf,ih];have e2:(s==r)=false:=by simpa using e
  simp only[Bf,Bg,Ne.symm e,false_or,Cr,e2,cond_false];split
  ·simp
  simp
theorem zLg(f:α->α->α)(L:List (Rw×α))(i:Nat)(h:i<L.length):sumT f [] (L.take (i+1))=addT f (L.getD i Ak).1 (L.getD i Ak).2 (sumT f [] (L.take i)):=by
 rw[Bh h,sumT,B0,Au,AC h];rfl
theorem zLi(f:α->α->α)(L:List (Rw×α)):srtL (sumT f [] L)=acc rcmp f [] L:=by
 have hn:=zGm f L [] (by simp[Ndk]);have hp:(srtL (sumT f [] L)).Perm (sumT f [] L):=by
  rw[<-zCn hn];have h1:=(zA5 (zAf ((sumT f [] L).map (·.1))) (Av (sumT f [] L).length)).map λi=>(sumT f [] L).getD i Ak;have hr:(Av (sumT f [] L).length).map (λi=>(sumT f [] L).getD i Ak)=sumT f [] L:=by
   apply B1 (by simp);intro i h1 h2;simp[Au,h2]
  rwa[hr]at h1
 exact zYv rcw f hp (zFv rcw _ _ _ List.Pairwise.nil)
end
theorem zWv(r:Rw)(v:Nat):∀(l:List (Rw×Nat)),((addT (· +·) r v l).map (·.2)).sum=(l.map (·.2)).sum+v
 |[]=>by simp[addT]
 |(s,u)::l=>by
  simp only[addT];split
  ·simp only[Bf,B2];omega
  simp only[Bf,B2,zWv r v l];omega
theorem zN7:∀(L l:List (Rw×Nat)),((sumT (· +·) l L).map (·.2)).sum=(l.map (·.2)).sum+(L.map (·.2)).sum
 |[],l=>by simp[sumT]
 |p::L,l=>by
  have:=zN7 L (addT (· +·) p.1 p.2 l)
  rw[zWv]at this;simp only[sumT,Ce,Bf,B2]at this⊢;omega
theorem zJq{l:List Nat}{x:Nat}(h:x∈l):x<=l.sum:=by
 induction l with
 |nil=>simp at h
 |cons a l ih=>
  rw[B2];rcases Bg.1 h with rfl|h
  ·omega
  have:=ih h;omega
theorem zKx{α:Type}(f:α->α->α):∀(L l:List (Rw×α)),(sumT f l L).length<=l.length+L.length
 |[],l=>by simp[sumT]
 | p::L,l=>by
  have:=zKx f L (addT f p.1 p.2 l)
  have h2:((addT f p.1 p.2 l).map (·.1)).length<=l.length+1:=by
   rw[zEn];split<;>simp
  rw[AG]at h2;simp only[sumT,Ce,Bq]at this⊢;omega
theorem zKy{α:Type}(f:α->α->α):∀(L l:List (Rw×α))(p:Rw×α),p∈sumT f l L->p.1∈l.map (·.1)\/p.1∈L.map (·.1)
 |[],l,p,h=> .inl (AD.2 ⟨p,h,rfl⟩)
 | q ::L,l,p,h=>by
  rcases zKy f L (addT f q.1 q.2 l) p h with h1|h1
  ·rw[zEn]at h1;split at h1
   ·exact .inl h1
   rcases List.mem_append.1 h1 with h2|h2
   ·exact .inl h2
   simp only[B3]at h2;exact .inr (by rw[h2];simp)
  exact .inr (BB _ h1)
theorem zBw(K:List Rw)(r:Rw):(K.findIdx? λs=>decide (r=s))=if r∈K then Aj (K.idxOf r)else none:=by
 induction K with
 |nil=>rfl
 | cons s K ih=>
  rw[List.findIdx?_cons,ih];by_cases e:r=s
  ·subst e;simp
  have e2:(s==r)=false:=by simpa using λh:s=r=>e h.symm
  simp only[e,decide_false,BM,if_false,Bg,false_or,Cr,e2,cond_false];split<;>simp
theorem zZf(K:List Rw)(r:Rw):zJt Ab (iD 0) (K.map kyv) (nsD (Av K.length)) (kyv r)=if r∈K then .tup [iD (K.idxOf r:Nat),bD Ab]else .tup [iD 0,bD Ac]:=by
 unfold zJt;rw[zD3,zBw];split
 ·rename_i h;split at h
  ·rename_i hm;simp only[Cf.injEq]at h;subst h
   have:=BN.2 hm
   simp[ctD,hm,Au,this]
  cases h
 rename_i h;split at h
 ·cases h
 rename_i hm;simp[ctD,hm]
theorem zW6{l:List (Rw×Nat)}{p:Rw×Nat}(h:p∈l):p.2<=(l.map (·.2)).sum:=by
 induction l with
 |nil=>simp at h
 |cons a l ih=>
  rw[Bf,B2];rcases Bg.1 h with rfl|h
  ·omega
  have:=ih h;omega
structure Hm{α β:Type}(S:Sr α)(S':Sr β)(g:α->β):Prop where
 add:∀a b,g (S.add a b)=S'.add (g a) (g b)
 mul:∀a b,g (S.mul a b)=S'.mul (g a) (g b)
 one:g S.one=S'.one
section
variable {α β : Type} (g : α → β)
def mpL(l:List (Rw×α)):List (Rw×β):=l.map λp=>(p.1,g p.2)
def Fa.mp(f:Fa α):Fa β:=⟨f.A,mpL g f.l⟩
variable {c : Rw → Rw → Int} {S : Sr α} {S' : Sr β} {g}
theorem zYn{f:α->α->α}{f':β->β->β}(h:∀a b,g (f a b)=f' (g a) (g b))(r:Rw)(v:α):∀l,mpL g (putP c f r v l)=putP c f' r (g v) (mpL g l)
 |[]=>rfl
 | (s,u)::l=>by
  have ih:=zYn h r v l;show mpL g (if c s r<0 then(s,u)::putP c f r v l else if s=r then(s,f u v)::l else(r,v)::(s,u)::l)=if c s r<0 then(s,g u)::putP c f' r (g v) (mpL g l)else if s=r then(s,f' (g u) (g v))::mpL g l else(r,g v)::(s,g u)::mpL g l
  split
  ·rw[<-ih];rfl
  split
  ·rw[<-h];rfl
  rfl
theorem acc_mp{f:α->α->α}{f':β->β->β}(h:∀a b,g (f a b)=f' (g a) (g b)):∀L l,mpL g (acc c f l L)=acc c f' (mpL g l) (mpL g L)
 |[],l=>rfl
 |p::L,l=>by
  show mpL g (acc c f (putP c f p.1 p.2 l) L)=acc c f' (putP c f' p.1 (g p.2) (mpL g l)) (mpL g L);rw[acc_mp h L,zYn h]
theorem zVu{f:α->α->α}{f':β->β->β}(h:∀a b,g (f a b)=f' (g a) (g b))(A B:List Nat)(lb:List (Rw×α)):∀la,mpL g (zBd f A la B lb)=zBd f' A (mpL g la) B (mpL g lb)
 |[]=>rfl
 |p::la=>by
  have ih:=zVu h A B lb la;unfold zBd at ih⊢;rw[show mpL g (p::la)=(p.1,g p.2)::mpL g la from rfl,BO,BO,<-ih];unfold mpL;rw[B4,BP,A4,A4];congr 1;refine BC λq _=>?_;show(_,g (f p.2 q.2))=(_,f' (g p.2) (g q.2));rw[h]
theorem okO_mp(U:List Nat)(s:Rw)(o:Fa α):okO U s (o.mp g)=okO U s o:=by
 unfold okO Fa.mp mpL;rw[List.any_map];rfl
theorem zTe(h:Hm S S' g)(f k:Fa α)(os:List (Fa α)):(fmul c S f k os).mp g=fmul c S' (f.mp g) (k.mp g) (os.map (Fa.mp g)):=by
 unfold fmul;show Fa.mk _ (mpL g _)=Fa.mk _ _;refine congrArg (Fa.mk _) ?_;rw[acc_mp h.add];refine congrArg (acc c S'.add []) ?_;show Ad _ (List.filter _ _)=List.filter _ (zBd S'.mul f.A (mpL g f.l) k.A (mpL g k.l));rw[<-zVu h.mul];unfold mpL;rw[BP];refine congrArg (Ad _) (Bv λp _=>?_);show(os.all λo=>okO (un f.A k.A) p.1 o)=((os.map (Fa.mp g)).all λo=>okO (un f.A k.A) p.1 o);rw[B5];congr 1;funext o;exact(okO_mp _ _ _).symm
theorem zTc(h:Hm S S' g)(v:Nat)(f:Fa α):(fsum c S v f).mp g=fsum c S' v (f.mp g):=by
 unfold fsum;show Fa.mk _ (mpL g _)=Fa.mk _ _;refine congrArg (Fa.mk _) ?_;rw[acc_mp h.add];refine congrArg (acc c S'.add []) ?_;show Ad _ (zFz f.A v f.l)=zFz f.A v (mpL g f.l);unfold zFz mpL;rw[A4,A4];rfl
theorem zP7(h:Hm S S' g):∀(fs:List (Fa α))(p:Fa α)(os:List (Fa α)),(zBb c S p fs os).mp g=zBb c S' (p.mp g) (fs.map (Fa.mp g)) (os.map (Fa.mp g))
 |[],p,os=>rfl
 |f::fs,p,os=>by
  rw[zBb,zP7 h fs,zTe h,B4];rfl
theorem with_mp(v:Nat)(fs:List (Fa α)):zCg v (fs.map (Fa.mp g))=(zCg v fs).map (Fa.mp g)/\zCq v (fs.map (Fa.mp g))=(zCq v fs).map (Fa.mp g):=by
 unfold zCg zCq;rw[BP,BP];exact⟨rfl,rfl⟩
theorem elim_mp(h:Hm S S' g)(v:Nat)(fs:List (Fa α)):(elim c S v fs).map (Fa.mp g)=elim c S' v (fs.map (Fa.mp g)):=by
 obtain⟨h1,h2⟩:=with_mp (g:=g) v fs;unfold elim;rw[h1,h2];cases zCg v fs with
 |nil=>rfl
 |cons p ws=>
  show Ad (Fa.mp g) (_++[_])=_++[_];rw[B4,Bf,BQ,zTc h,zP7 h]
theorem cost_mp(pop:Nat->Nat)(fs:List (Fa α))(v:Nat):zDp pop (fs.map (Fa.mp g)) v=zDp pop fs v:=by
 have e1:uniM v (fs.map (Fa.mp g))=uniM v fs:=List.foldl_map;have e2:bigL v (fs.map (Fa.mp g))=bigL v fs:=List.foldl_map;unfold zDp;rw[e1,e2]
theorem cheap_mp(pop:Nat->Nat)(fs:List (Fa α))(E:List Nat):zAj pop (fs.map (Fa.mp g)) E=zAj pop fs E:=by
 have e:zC0 pop (fs.map (Fa.mp g))=zC0 pop fs:=by
  funext s v;unfold zC0;rw[cost_mp]
 unfold zAj;rw[e]
theorem zV9(pop:Nat->Nat)(h:Hm S S' g):∀(n:Nat)(fs:List (Fa α))(E:List Nat),(zCr pop c S n fs E).map (Fa.mp g)=zCr pop c S' n (fs.map (Fa.mp g)) E
 |0,fs,E=>rfl
 |n+1,fs,E=>by
  rw[zCr,zV9 pop h n,elim_mp h,zCr,cheap_mp]
theorem zV8(pop:Nat->Nat)(h:Hm S S' g)(fs:List (Fa α))(E:List Nat):(zDx pop c S fs E).mp g=zDx pop c S' (fs.map (Fa.mp g)) E:=by
 unfold zDx;rw[zP7 h,zV9 pop h];have:(zB6 S).mp g=zB6 S':=by
  show Fa.mk _ [(_,g S.one)]=_;rw[h.one];rfl
 rw[this];rfl
theorem zZb(f:Fa α)(z:α):(((f.mp g).l.map (·.2)).headD (g z))=g ((f.l.map (·.2)).headD z):=by
 obtain⟨A,l⟩:=f;cases l<;>rfl
theorem zYp{w:α->Prop}{f:α->α->α}(h:∀a b,w a->w b->w (f a b))(r:Rw)(v:α)(hv:w v):∀l:List (Rw×α),(∀p∈l,w p.2)->∀p∈putP c f r v l,w p.2
 |[],_,p,hp=>by rw[B3.1 hp];exact hv
 | (s,u)::l,hl,p,hp=>by
  have hu:=hl (s,u) (B6 ..);have hl':=λq hq=>hl q (BB _ hq);unfold putP at hp;split at hp
  ·rcases Bg.1 hp with rfl|hp
   ·exact hu
   exact zYp h r v hv l hl' p hp
  split at hp
  ·rcases Bg.1 hp with rfl|hp
   ·exact h _ _ hu hv
   exact hl' p hp
  rcases Bg.1 hp with rfl|hp
  ·exact hv
  exact hl p hp
theorem acc_bd{w:α->Prop}{f:α->α->α}(h:∀a b,w a->w b->w (f a b)):∀(L l:List (Rw×α)),(∀p∈L,w p.2)->(∀p∈l,w p.2)->∀p∈acc c f l L,w p.2
 |[],l,_,hl=>hl
 |p::L,l,hL,hl=>acc_bd h L _ (λq hq=>hL q (BB _ hq)) (zYp h p.1 p.2 (hL p (B6 ..)) l hl)
theorem addT_mp{f:α->α->α}{f':β->β->β}(h:∀a b,g (f a b)=f' (g a) (g b))(r:Rw)(v:α):∀l,mpL g (addT f r v l)=addT f' r (g v) (mpL g l)
 |[]=>rfl
 |(s,u)::l=>by
  have ih:=addT_mp h r v l;show mpL g (if s=r then(s,f u v)::l else(s,u)::addT f r v l)=if s=r then(s,f' (g u) (g v))::mpL g l else(s,g u)::addT f' r (g v) (mpL g l)
  split
  ·rw[<-h];rfl
  rw[<-ih];rfl
theorem zSg{f:α->α->α}{f':β->β->β}(h:∀a b,g (f a b)=f' (g a) (g b)):∀L l,mpL g (sumT f l L)=sumT f' (mpL g l) (mpL g L)
 |[],l=>rfl
 |p::L,l=>by
  show mpL g (sumT f (addT f p.1 p.2 l) L)=sumT f' (addT f' p.1 (g p.2) (mpL g l)) (mpL g L);rw[zSg h L,addT_mp h]
theorem addT_bd{w:α->Prop}{f:α->α->α}(h:∀a b,w a->w b->w (f a b))(r:Rw)(v:α)(hv:w v):∀l:List (Rw×α),(∀p∈l,w p.2)->∀p∈addT f r v l,w p.2
 |[],_,p,hp=>by rw[B3.1 hp];exact hv
 | (s,u)::l,hl,p,hp=>by
  have hu:=hl (s,u) (B6 ..);have hl':=λq hq=>hl q (BB _ hq);unfold addT at hp;split at hp
  ·rcases Bg.1 hp with rfl|hp
   ·exact h _ _ hu hv
   exact hl' p hp
  rcases Bg.1 hp with rfl|hp
  ·exact hu
  exact addT_bd h r v hv l hl' p hp
theorem zSh{w:α->Prop}{f:α->α->α}(h:∀a b,w a->w b->w (f a b)):∀(L l:List (Rw×α)),(∀p∈L,w p.2)->(∀p∈l,w p.2)->∀p∈sumT f l L,w p.2
 |[],l,_,hl=>hl
 |p::L,l,hL,hl=>zSh h L _ (λq hq=>hL q (BB _ hq)) (addT_bd h p.1 p.2 (hL p (B6 ..)) l hl)
end
def omin:Option Nat->Option Nat->Option Nat
 |none,y=>y
 |some x,Aq=>Aj x
 |some x,Aj y=>Aj (min x y)
def zJo:Option Nat->Option Nat->Option Nat
 |some x,Aj y=>Aj (x+y)
 |_,_=>Aq
def Sk:Sr (Option Nat):=⟨omin,zJo,Aj 0,
 λa=>by cases a<;>simp[zJo],
 λa b=>by cases a<;>cases b<;>simp[omin,Nat.min_comm],
 λa b d=>by cases a<;>cases b<;>cases d<;>simp[omin,Nat.min_assoc],
 λa b=>by cases a<;>cases b<;>simp[zJo,Nat.add_comm],
 λa b d=>by cases a<;>cases b<;>cases d<;>simp[zJo,Nat.add_assoc],
 λa b d=>by cases a<;>cases b<;>cases d<;>simp[zJo,omin,Nat.add_min_add_left]⟩
def Sr.prod{α β:Type}(S:Sr α)(T:Sr β):Sr (α×β):=⟨λa b=>(S.add a.1 b.1,T.add a.2 b.2),λa b=>(S.mul a.1 b.1,T.mul a.2 b.2),(S.one,T.one),
 λa=>by simp[S.om,T.om],λa b=>by simp[S.ac a.1 b.1,T.ac a.2 b.2],λa b d=>by simp[S.aa,T.aa],λa b=>by simp[S.mc a.1 b.1,T.mc a.2 b.2],λa b d=>by simp[S.ma,T.ma],λa b d=>by simp[S.dl,T.dl]⟩
def Sp:Sr (Nat×Option Nat):=Sr.prod Sn Sk
theorem hm1:Hm Sp Sn AE:=⟨λ_ _=>rfl,λ_ _=>rfl,rfl⟩
theorem hm2:Hm Sp Sk A0:=⟨λ_ _=>rfl,λ_ _=>rfl,rfl⟩
def sk(f:Fa (Option Nat)):Nat:=(f.l.map λp=>p.2.getD 0).foldr max 0
theorem zZ4{l:List Nat}{M:Nat}:l.foldr max 0<=M↔∀x∈l,x<=M:=by
 induction l with
 |nil=>simp
 |cons a l ih=>
  rw[List.foldr_cons,List.forall_mem_cons,<-ih];omega
theorem zSl{f:Fa (Option Nat)}{M:Nat}:sk f<=M↔∀p∈f.l,p.2.getD 0<=M:=by
 unfold sk;rw[zZ4];exact⟨λh p hp=>h _ (AD.2 ⟨p,hp,rfl⟩),λh x hx=>by obtain⟨p,hp,rfl⟩:=AD.1 hx;exact h p hp⟩
theorem zYx{M:Nat}(a b:Option Nat)(ha:a.getD 0<=M)(hb:b.getD 0<=M):(omin a b).getD 0<=M:=by
 cases a<;>cases b<;>simp_all [omin];omega
section
variable {c : Rw → Rw → Int}
theorem fmul_sk(f g:Fa (Option Nat))(os:List (Fa (Option Nat))):sk (fmul c Sk f g os)<=sk f+sk g:=by
 rw[zSl];refine acc_bd (w:=λa:Option Nat=>a.getD 0<=sk f+sk g) (λa b=>zYx a b) _ _ (λp hp=>?_) λp hp=>by cases hp
 obtain⟨q,hq,hp⟩:=List.mem_flatMap.1 (A7.1 hp).1;obtain⟨r,hr,rfl⟩:=AD.1 hp;have h1:=zSl.1 (A2 (sk f)) q hq;have h2:=zSl.1 (A2 (sk g)) r (A7.1 hr).1;show(zJo q.2 r.2).getD 0<=_;cases e1:q.2<;>cases e2:r.2<;>simp_all [zJo];omega
theorem fsum_sk(v:Nat)(f:Fa (Option Nat)):sk (fsum c Sk v f)<=sk f:=by
 rw[zSl];refine acc_bd (w:=λa:Option Nat=>a.getD 0<=sk f) (λa b=>zYx a b) _ _ (λp hp=>?_) λp hp=>by cases hp
 obtain⟨q,hq,rfl⟩:=AD.1 hp;exact zSl.1 (A2 (sk f)) q hq
def kz(f:Fa (Option Nat)):Nat:=2^sk f
theorem zG6(f:Fa (Option Nat)):1<=kz f:=Nat.one_le_two_pow
theorem zPy(f g:Fa (Option Nat))(os:List (Fa (Option Nat))):kz (fmul c Sk f g os)<=kz f*kz g:=by
 unfold kz;rw[<-Nat.pow_add];exact Nat.pow_le_pow_right (by omega) (fmul_sk f g os)
theorem zZ3(v:Nat)(f:Fa (Option Nat)):kz (fsum c Sk v f)<=kz f:=Nat.pow_le_pow_right (by omega) (fsum_sk v f)
def qz(f:Fa (Nat×Option Nat)):Nat:=vz (f.mp AE)*kz (f.mp A0)
theorem zLq(f:Fa (Nat×Option Nat)):1<=qz f:=Nat.mul_pos (zG3 _) (zG6 _)
theorem zPx(f g:Fa (Nat×Option Nat))(os:List (Fa (Nat×Option Nat))):qz (fmul c Sp f g os)<=qz f*qz g:=by
 unfold qz;rw[zTe hm1,zTe hm2];have h1:=zMb (c:=c) (f.mp AE) (g.mp AE) (os.map (Fa.mp AE));have h2:=zPy (c:=c) (f.mp A0) (g.mp A0) (os.map (Fa.mp A0));refine AX (Nat.mul_le_mul h1 h2) (Cg ?_);simp only[Nat.mul_assoc,Nat.mul_left_comm]
theorem zZ2(v:Nat)(f:Fa (Nat×Option Nat)):qz (fsum c Sp v f)<=qz f:=by
 unfold qz;rw[zTc hm1,zTc hm2];exact Nat.mul_le_mul (Cg (zTa v _)) (zZ3 v _)
end
@[irreducible] def Ez:Nat:=30000
theorem Ez_eq:Ez=30000:=by unfold Ez;rfl
def Bz:Nat:=2^Ez
theorem pow_bd{a b:Nat}(h:2^a<=2^b):a<=b:=(Nat.pow_le_pow_iff_right (by omega)).1 h
theorem kz_bd{f:Fa (Option Nat)}(h:kz f<=Bz):∀p∈f.l,p.2.getD 0<=30000:=by
 have h1:sk f<=Ez:=pow_bd h;rw[Ez_eq]at h1;exact zSl.1 h1
theorem qz_bd{f:Fa (Nat×Option Nat)}(h:qz f<=Bz):(∀p∈f.l,p.2.1<Bz)/\∀p∈f.l,p.2.2.getD 0<=30000:=by
 have h1:=zG3 (f.mp AE);have h2:=zG6 (f.mp A0);constructor
 ·intro p hp;have h3:vz (f.mp AE)<=Bz:=AX (Nat.le_mul_of_pos_right _ h2) h;have h4:p.2.1<=((f.mp AE).l.map (·.2)).sum:=by
   exact zJq (AD.2 ⟨(p.1,p.2.1),AD.2 ⟨p,hp,rfl⟩,rfl⟩)
  unfold vz at h3;omega
 intro p hp;exact kz_bd (f:=f.mp A0) (AX (Nat.le_mul_of_pos_left _ h1) h) (p.1,p.2.2) (AD.2 ⟨p,hp,rfl⟩)
theorem zAi(l:List Nat)(k:Nat)(h:k<l.length):((nsD l).drop k).headD .unk=iD (l.getD k 0:Nat):=by simp_all
theorem zBv(l:List Nat)(k:Nat)(h:k<l.length):l.getD k 0∈l:=by
 grind
def mem32(m:Nat):List Nat:=(Av 32).filter λv=>m.testBit v
theorem zXd(m i:Nat)(h:i<32):((Av 32).take (i+1)).filter (λv=>m.testBit v)=((Av 32).take i).filter (λv=>m.testBit v)++if m.testBit i then[i]else[]:=by
 rw[Bh (by simpa using h),B7];grind
theorem zLx(l:List Nat)(i:Nat):nsD (l++[i])=nsD l++[iD i]:=by simp
theorem zFy(l:List Nat)(n:Nat)(h:l.length=n):(nsD l).take n=nsD l:=by grind [AA]
def zAu(p:Nat->Bool)(A:List Nat):List Nat:=(Av A.length).filter λj=>p (A.getD j 0)
theorem zJb(p:Nat->Bool)(A:List Nat)(i:Nat)(h:i<A.length):((Av A.length).take (i+1)).filter (λj=>p (A.getD j 0))=((Av A.length).take i).filter (λj=>p (A.getD j 0))++if p (A.getD i 0)then[i]else[]:=by
 rw[Bh (by simpa using h),B7];grind
abbrev intB(l:List D):Bk:=⟨l,3,1,Ab,Ac, .plain⟩
end
section
open Go.RowKit
attribute [local irreducible] seqW awp zAe zAh zAb Weak updS zAs retL Pure Acts rP setP setQ cP nP fr
set_option maxRecDepth 4096
abbrev fB1(a b c:D):Bk:=⟨[a,b,c],90,0,Ac,Ac, .plain⟩
set_option maxHeartbeats 1000000 in
theorem zNm(A:List Nat)(n:Nat)(hn:A.length=n)(hl:n<=1000)(hA:∀v∈A,v<32)(x y:List D)(k j:Nat):Pure Al 87 [.agg [.row (nsD A) n, .row x k, .row y j]] [] (u32D (msk A)):=by
 subst hn;have hlt:∀i,msk (A.take i)<4294967296:=λi=>zA3 λv hv=>hA v (BR hv);refine zH zBf mixed Tryz.func87 rfl<|vAu<|vAe<|zB<|vA<|ve (True/\0<3)<|zF<|zQ (λ(i:Nat)=>fr 19 [(2,Ay<|AI AB (0:Int)),(3,u32D<|msk<|Am i A),(7,Ae (nsD A)<|Aa A),(8,iD (Aa A:Int)),(9,iD (i:Int))]) (λi=>[fB1 (.row (nsD A) A.length) (.row x k)<|.row y j]) (λi=>A.length-i) (λi=>i<=A.length) 0 ?_ ?_ ?_
 ·omega
 ·refine vk 1
 rintro i h1;have hi:=hlt i;rcases AF i A.length with h2|h2
 ·have h3:=hA _ (zBv A i h2);have h4:=zK0 h3;have h5:=zH1 hi h4;refine vAu<|zB<|vT ((i:Int)<↑(Aa A))<|vKB<|vA<|vr 1 (ix ↑i ↑(Aa A) (nsD A≠[])) ?_ ⟨(by omega),⟨(by omega),(by exact zX)⟩⟩;refine vp 11 i (nsD A)<|vr 1 (0<Aa (Ag i<|nsD A))<|vs 12 (AJ (Ag i<|nsD A) Uk) (iD ↑(Af A i 0)) (hd:=by simp(disch:=omega) only[zAi])<|veT<|zA rfl<|vr 3 ((0:Int)<=(↑(Af A i 0):Int))<|vs 15 (Ay<|AI AB<|A1 AB ((1:Int)*(2:Int)^min (A5 (↑(Af A i 0):Int)) 32)) (dig ((2:Nat)^Af A i 0)) (hd:=by simp(disch:=omega) only[Br,zDu])<|vrT 1<|vs 16 (Ay<|AI AB<|A1 AB (↑(AH (Ap 32 (↑(msk<|Am i A):Int)|||Ap 32 (↑((2:Nat)^Af A i 0):Int))):Int)) (dig (msk (Am i A)|||(2:Nat)^Af A i 0)) (hd:=by simp(disch:=omega) only[zKu,zA1])<|vrT 1<|vnil<|zD<|vN<|zA rfl<|vr 2 (i6 (↑i+1))<|vnil<|zC<|⟨i+1,by omega,by omega,?_⟩;rw[zPs A i h2];refine vk 1
 refine vAu<|zB<|vF ((i:Int)<(Aa A:Int))<|vZ2<|vAe<|zK<|vre (True) (dig<|msk<|Am i A) (.inr rfl) ?_;rw[AA h2]
set_option maxHeartbeats 1000000 in
theorem zE0(m:Nat)(hm:m<4294967296):Pure Al 88 [u32D m] [] (.row (nsD (mem32 m)) (mem32 m).length):=by
 refine zH zBf mixed Tryz.func88 rfl<|vAu<|vAe<|zB<|vAe<|zF<|zA2 (λ(i:Nat)(l:List Nat)=>fr 19 [(0,u32D m),(2,nl),(3,Ah 0 0 (Aa l) (Aa l) Ab),(5,iD (i:Int))]) (λi l=>[intB<|nsD l]) (λi l=>32-i) (λ(i:Nat)(l:List Nat)=>i<=32/\l=((Av 32).take i).filter λv=>m.testBit v) 0 [] ?_ ?_ ?_
 ·exact⟨by omega,by simp⟩
 ·refine vk 0
 rintro i l ⟨h1,h2⟩;rcases AF i 32 with h3|h3
 ·have h4:=zXd m i h3;rw[<-h2]at h4;have hlen:l.length<=32:=by rw[h2];exact AX (A9 _ _) (by simp;omega)
  focus
   refine vAu<|zB<|vT ((i:Int)<(32:Int))<|vKB<|vAe<|vA<|vr 3 ((0:Int)<=(i:Int))<|vs 10 (Ay<|AI AB<|AT (m:Int) ((2:Int)^min (A5 (i:Int)) 32)) (dig (m>>>i)) (hd:=by simp(disch:=omega) only[Br,zDt])<|vrT 1<|vs 11 (Ay<|AI AB<|A1 AB (↑(AH (Ap 32 (↑(m>>>i):Int)&&&Ap 32 (1:Int))):Int)) (dig<|AH (Ap 32 (↑(m>>>i):Int)&&&Ap 32 (1:Int))) (hd:=by simp(disch:=omega) only[zA1])<|vrT 1<|vs 12 (bD ((↑(AH (Ap 32 (↑(m>>>i):Int)&&&Ap 32 (1:Int))):Int)==(1:Int))) (bD<|Ch m i) (hd:=by simp(disch:=omega) only[zR4])<|veT<|zAa (t:=Ch m i) (by kernel_rfl) (λhc=>?_)<|λhc=>?_;refine zA rfl<|vr 5 (((1=1/\1<=1/\True)/\0<1/\1=1/\1<=16777216/\1<=9223372036854775807)/\AV (intB<|nsD l)=Ab/\Aa (Az<|intB<|nsD l)=Aa l*1/\Aa l=Aa l*1/\AM (intB<|nsD l)=3/\AN (intB<|nsD l)=1/\1=1/\0<1/\0<8/\3=3/\(Aa l+1)*8<=140737488355328/\1=1/\AK (Ax<|intB<|nsD l)=Ac/\(Ac=Ac\/AL (Ax<|intB<|nsD l)=Ab))<|vs 3 (Ah 0 0 (Aa l+1) ((Aa l+1)*1) Ab) (Ah 0 0 (Aa l+1) (Aa l+1) Ab) (hd:=by simp(disch:=omega) only[AW])<|vnil<|zD<|vN<|zA rfl<|vr 2 (i6 (↑i+1))<|vnil<|zC ?_;rotate_left;refine zJ<|zD<|vN<|zA rfl<|vr 2 (i6 (↑i+1))<|vnil<|zC ?_;rotate_left
  ·have hc2:m.testBit i=true:=by assumption
   rw[hc2,if_pos rfl]at h4;refine⟨i+1,l++[i],⟨by omega,h4.symm⟩,by omega,?_⟩;rw[zLx,A8];refine vk 1
  have hc2:m.testBit i=false:=by assumption
  rw[hc2,if_neg (by decide),Bs]at h4;refine⟨i+1,l,⟨by omega,h4.symm⟩,by omega,?_⟩;refine vk 1
 refine vAu<|zB<|vF ((i:Int)<(32:Int))<|vZ2<|vAe<|zK<|zBr (True) (Ae (Am (Aa l)<|Ag 0<|Az<|intB<|nsD l)<|Aa l) (Ae (Am (Aa l)<|nsD l)<|Aa l) (.inr rfl) (by simp(disch:=omega) only[AY]) ?_;have e:i=32:=by omega
 subst e;rw[AA (by simp)]at h2;rw[h2,zFy _ _ rfl];rfl
set_option maxHeartbeats 1000000 in
theorem zB0(A B:List Nat)(n:Nat)(hn:A.length=n)(hA:∀v∈A,v<32)(m:Nat)(hm:m<4294967296)(hl:n<=1000:=by omega):Pure Al 93 [.row (nsD A) n,u32D m] [] (.row (nsD (zAu (λv=>m.testBit v) A)) (zAu (λv=>m.testBit v) A).length):=by
 subst hn;refine zH zBf mixed Tryz.func93 rfl<|vAu<|vAe<|zB<|vAe<|zF<|zA2 (λ(i:Nat)(l:List Nat)=>fr 26 [(1,u32D m),(4,nl),(5,Ah 0 0 (Aa l) (Aa l) Ab),(8,Ae (nsD A)<|Aa A),(9,iD (Aa A:Int)),(10,iD (i:Int))]) (λi l=>[intB<|nsD l]) (λi l=>A.length-i) (λ(i:Nat)(l:List Nat)=>i<=A.length/\l=((Av A.length).take i).filter λj=>m.testBit (A.getD j 0)) 0 [] ?_ ?_ ?_
 ·exact⟨by omega,by simp⟩
 ·refine vk 0
 rintro i l ⟨h1,h2⟩;rcases AF i A.length with h3|h3
 ·have h4:=zJb (λv=>m.testBit v) A i h3;rw[<-h2]at h4;have hlen:l.length<=1000:=by rw[h2];exact AX (A9 _ _) (by simp;omega)
  have h5:=hA _ (zBv A i h3);focus
   refine vAu<|zB<|vT ((i:Int)<↑(Aa A))<|vKB<|vA<|vr 2 (ix ↑i ↑(Aa A) (nsD A≠[])) ?_ ⟨(by omega),⟨(by omega),(by exact zX)⟩⟩;refine vp 13 i (nsD A)<|vr 1 (0<Aa (Ag i<|nsD A))<|vs 14 (AJ (Ag i<|nsD A) Uk) (iD ↑(Af A i 0)) (hd:=by simp(disch:=omega) only[zAi])<|veT<|vA<|vr 3 ((0:Int)<=(↑(Af A i 0):Int))<|vs 17 (Ay<|AI AB<|AT (m:Int) ((2:Int)^min (A5 (↑(Af A i 0):Int)) 32)) (dig (m>>>Af A i 0)) (hd:=by simp(disch:=omega) only[Br,zDt])<|vrT 1<|vs 18 (Ay<|AI AB<|A1 AB (↑(AH (Ap 32 (↑(m>>>Af A i 0):Int)&&&Ap 32 (1:Int))):Int)) (dig<|AH (Ap 32 (↑(m>>>Af A i 0):Int)&&&Ap 32 (1:Int))) (hd:=by simp(disch:=omega) only[zA1])<|vrT 1<|vs 19 (bD ((↑(AH (Ap 32 (↑(m>>>Af A i 0):Int)&&&Ap 32 (1:Int))):Int)==(1:Int))) (bD<|Ch m<|Af A i 0) (hd:=by simp(disch:=omega) only[zR4])<|veT<|zAa (t:=Ch m (Af A i 0)) (by kernel_rfl) (λhc=>?_)<|λhc=>?_;refine zA rfl<|vr 5 (((1=1/\1<=1/\True)/\0<1/\1=1/\1<=16777216/\1<=9223372036854775807)/\AV (intB<|nsD l)=Ab/\Aa (Az<|intB<|nsD l)=Aa l*1/\Aa l=Aa l*1/\AM (intB<|nsD l)=3/\AN (intB<|nsD l)=1/\1=1/\0<1/\0<8/\3=3/\(Aa l+1)*8<=140737488355328/\1=1/\AK (Ax<|intB<|nsD l)=Ac/\(Ac=Ac\/AL (Ax<|intB<|nsD l)=Ab))<|vs 5 (Ah 0 0 (Aa l+1) ((Aa l+1)*1) Ab) (Ah 0 0 (Aa l+1) (Aa l+1) Ab) (hd:=by simp(disch:=omega) only[AW])<|vnil<|zD<|vN<|zA rfl<|vr 2 (i6 (↑i+1))<|vnil<|zC ?_;rotate_left;refine zJ<|zD<|vN<|zA rfl<|vr 2 (i6 (↑i+1))<|vnil<|zC ?_;rotate_left
  ·have hc2:m.testBit (A.getD i 0)=true:=by assumption
   rw[hc2,if_pos rfl]at h4;refine⟨i+1,l++[i],⟨by omega,h4.symm⟩,by omega,?_⟩;rw[zLx,A8];refine vk 1
  have hc2:m.testBit (A.getD i 0)=false:=by assumption
  rw[hc2,if_neg (by decide),Bs]at h4;refine⟨i+1,l,⟨by omega,h4.symm⟩,by omega,?_⟩;refine vk 1
 refine vAu<|zB<|vF ((i:Int)<(Aa A:Int))<|vZ2<|vAe<|zK<|zBr (True) (Ae (Am (Aa l)<|Ag 0<|Az<|intB<|nsD l)<|Aa l) (Ae (Am (Aa l)<|nsD l)<|Aa l) (.inr rfl) (by simp(disch:=omega) only[AY]) ?_;have e:i=A.length:=by omega
 subst e;rw[AA (by simp)]at h2;rw[h2,zFy _ _ rfl];rfl
end
section
open Go.RowKit
section
variable {α : Type} {g : α → List D} {c : Nat}
theorem zCc(hg:∀a,(g a).length=c)(l:List α):(l.flatMap g).length=l.length*c:=by
 induction l<;>grind
theorem zHi(hg:∀a,(g a).length=c)(l:List α)(i:Nat):(l.flatMap g).drop (i*c)=(l.drop i).flatMap g:=by
 induction l generalizing i with
 |nil=>simp
 |cons a l ih=>
  cases i<;>grind [B8,Nat.add_comm,List.drop_drop,List.drop_left]
theorem fl_at[Inhabited α](hg:∀a,(g a).length=c)(l:List α)(i:Nat)(h:i<l.length):(l.flatMap g).drop (i*c)=g (l.getD i Ak)++(l.drop (i+1)).flatMap g:=by
 grind [zHi,CG,AC]
theorem zA9[Inhabited α](hg:∀a,(g a).length=c)(l:List α)(i:Nat)(h:i<l.length):((l.flatMap g).drop (i*c)).take c=g (l.getD i Ak):=by
 grind [fl_at,AA]
theorem zCb(hg:∀a,(g a).length=c)(hc:0<c)(l:List α)(h:0<l.length:=by omega):l.flatMap g≠[]:=λe=>by
 have:=zCc hg l
 rw[e]at this;have h2:0<l.length*c:=Nat.mul_pos h hc;simp only[BS]at this;omega
theorem zB5[Inhabited α](hg:∀a,(g a).length=c)(l:List α)(i:Nat)(h:i<l.length):c<=((l.flatMap g).drop (i*c)).length:=by
 grind [fl_at,A8]
theorem zBs(hg:∀a,(g a).length=c)(l:List α)(n:Nat)(h:l.length=n):(l.flatMap g).take (n*c)=l.flatMap g:=by grind [AA,zCc]
theorem zBl[Inhabited α](l:List α)(i:Nat)(h:i<l.length):l.take (i+1)=l.take i++[l.getD i Ak]:=by
 simp_all
end
end
section
open Go.RowKit
attribute [local irreducible] seqW awp zAe zAh zAb Weak updS zAs retL Pure Acts rP setP setQ cP nP fr
set_option maxRecDepth 4096
theorem pickV_vs(x:List Va)(cols:List Nat)(h:∀v∈x,Vs v):∀v∈zP x cols,Vs v:=by
 intro v hv;obtain⟨c,_,rfl⟩:=AD.1 hv;rw[Au];cases e:x[c]? with
 |none=>exact⟨by decide,by decide,by decide⟩
 |some u=>exact h u (BT e)
theorem zJw(x:List Va)(cols:List Nat)(n m:Nat)(hn:x.length=n)(hm:cols.length=m)(hc:∀c∈cols,c<x.length)(hv:∀v∈x,Vs v)(ln:n<=10000:=by omega)(lm:m<=10000:=by omega):Pure Al 94 [.row (zN x) n, .row (nsD cols) m] [] (strD (idR (zP x cols))):=by
 have h1:=zGq x cols n m hn hm (by omega) (by omega) hc;have h2:=rkey_c (zP x cols) m (by simp[zP,hm]) lm (pickV_vs x cols hv);refine zH zBf mixed Tryz.func94 rfl<|vAu<|vA<|vrT 2<|vc (h1)<|ve (0<2/\1<2)<|vA<|vrT 1<|vc (h2)<|veT<|zK<|vret (True)<|.inr rfl
abbrev flC(f:List Nat×List (List Va)):List D:=[.row (nsD f.1) f.1.length, .mfz (f.2.map kyv) (f.2.map λ_=>bD Ab)]
theorem zFq(f:List Nat×List (List Va)):(flC f).length=2:=rfl
theorem look_b(K:List (List Va))(r:List Va):zJt Ac (bD Ac) (K.map kyv) (K.map λ_=>bD Ab) (kyv r)=bD (decide (r∈K)):=by
 unfold zJt;rw[zD3];cases e:K.findIdx? λs=>decide (r=s)with
 |none=>
  rw[CH]at e;have:r∉K:=λh=>by have:=e r h;simp at this
  simp[ctD,this]
 | some i=>
  rw[CI]at e;obtain⟨h,h1,_⟩:=e;have:r∈K:=by
   have e2:r=K[i]:=by simpa using h1
   rw[e2];exact AZ h
  simp[ctD,this,Au,h]
abbrev flB1(a b:D):Bk:=⟨[a,b],203,0,Ac,Ac, .plain⟩
set_option maxHeartbeats 1000000 in
theorem zPp(fs:List (List Nat×List (List Va)))(n:Nat)(hn:fs.length=n)(hl:n<=1000)(x:List Va)(m:Nat)(hm:x.length=m)(lm:m<=10000)(hv:∀v∈x,Vs v)(hcs:∀f∈fs,f.1.length<=1000/\∀c∈f.1,c<x.length):Pure Al 96 [.row (fs.flatMap flC) n, .row (zN x) m] [] (bD (fs.all λf=>decide (zP x f.1∈f.2))):=by
 subst hn;refine zH zBf mixed Tryz.func96 rfl<|vAu<|zB<|vAe<|zF<|zQ (λ(i:Nat)=>fr 22 [(1,Ae (zN x) m),(7,Ae (As flC fs)<|Aa fs),(8,iD (Aa fs:Int)),(9,iD (i:Int))]) (λ_=>[]) (λi=>fs.length-i) (λi=>i<=fs.length/\(fs.take i).all (λf=>decide (zP x f.1∈f.2))=Ab) 0 ?_ ?_ ?_
 ·exact⟨by omega,by simp⟩
 ·refine vk 0
 rintro i ⟨h1,h2⟩;rcases AF i fs.length with h3|h3
 ·have hf:fs.getD i Ak∈fs:=by rw[Au,AC h3];exact AZ h3
  have hk:=zJw x (fs.getD i Ak).1 m _ hm rfl (hcs _ hf).2 hv (ln:=lm) (lm:=by have:=(hcs _ hf).1;omega);have hs:=zWu (λf:List Nat×List (List Va)=>decide (zP x f.1∈f.2)) Ak fs i h3;rw[h2,Bool.true_and]at hs;have hg:=zA9 zFq fs i h3;have hle:=zB5 zFq fs i h3;have hne:=zCb zFq (by decide) fs;generalize hfe:fs.getD i Ak=f at*;focus
   refine vAu (zB (vT ((i:Int)<↑(Aa fs)) (vKB (vA (vr 2 (ix ↑i ↑(Aa fs) (As flC fs≠[])/\2<=Aa (Ag (i*2) (As flC fs))) (vs 12 (Ar (Am 2 (Ag (i*2) (As flC fs)))) (Ar (flC f)) (hd:=by simp(disch:=omega) only[hg]) (ve (Ac=Ac/\Ab=Ab/\2=2/\2<=2) (zB (vd [0,2,3,1,4,5,6,7] (vr 5 (True/\True/\0<1/\0<2) (vc hk (vwh 1 [] [] (zS (AO (AP AQ "string" 1 16 Ab 8 8 (Aj (Aw (AR #[]))) Ab #[])) (Aw (bs (idR (zP x (AE f)))))=Ab/\Bi (Ad kyv (A0 f)) (zS (AO (AP AQ "string" 1 16 Ab 8 8 (Aj (Aw (AR #[]))) Ab #[])))=Ab) ?_ ?_))))))))))));rotate_left;refine vs 19 (zJt Ac (bD Ac) (Ad kyv (A0 f)) (Ad (λ(x:List Va)=>bD Ab) (A0 f)) (Aw (bs (idR (zP x (AE f)))))) (bD (decide (zP x (AE f)∈A0 f))) (hd:=by simp(disch:=omega) only[look_b]) (veT (zAa (t:=!decide (zP x (AE f)∈A0 f)) (by kernel_rfl) (λhc=>?_) (λhc=>?_)));simp only[Ci]at hc;refine vAe (zK (zL (zG (zG (zL (zG (vre (True) (Ay (B9 Ac)) (.inr rfl) ?_)))))));rotate_left;simp only[Cs]at hc;refine zJ (zD (vN (zA rfl (vr 2 (i6 (↑i+1)) (vnil (zC ?_))))));rotate_left
  ·exact⟨rfl,zBt _⟩
  ·congr 2;symm;refine all_no _ Ak fs i h3 ?_;rw[hfe];simpa using hc
  refine⟨i+1,⟨by omega,?_⟩,by omega,?_⟩
  ·rw[hs];simpa using hc
  refine vk 0
 refine vAu<|zB<|vF ((i:Int)<(Aa fs:Int))<|vZ2<|vAe<|zK<|vre (True) (Ay<|B9 Ab) (.inr rfl) ?_;have e:i=fs.length:=by omega
 subst e;rw[BF]at h2;rw[h2]
def addK(K:List (List Va))(r:List Va):List (List Va):=if r∈K then K else K++[r]
def allK(L:List (List Va)):List (List Va):=L.foldl addK []
theorem zFu(L:List (List Va))(r:List Va):r∈allK L↔r∈L:=by
 have key:∀(L K:List (List Va)),r∈L.foldl addK K↔r∈K\/r∈L:=by
  intro L;induction L with
  |nil=>intro K;simp
  | cons a L ih=>
   intro K;rw[Ce,ih];unfold addK;split
   ·rename_i h;constructor
    ·rintro(h1|h1)
     ·exact .inl h1
     exact .inr (BB _ h1)
    rintro(h1|h1)
    ·exact .inl h1
    rcases Bg.1 h1 with rfl|h2
    ·exact .inl h
    exact .inr h2
   simp[or_assoc]
 rw[allK,key];simp
theorem zMw(L:List (List Va))(i:Nat)(h:i<L.length):allK (L.take (i+1))=addK (allK (L.take i)) (L.getD i []):=by
 rw[Bh h,allK,B0,Au,AC h];rfl
abbrev mapB(K:List (List Va)):Bk:=⟨K.map λ_=>bD Ab,201,0,Ab,Ac, .map (K.map kyv)⟩
theorem zZa(K:List (List Va))(r:List Va):mput (mapB K) (K.map kyv) (kyv r) (bD Ab)=mapB (addK K r):=by
 unfold mput addK;rw[zD3];cases e:K.findIdx? λs=>decide (r=s)with
 |none=>
  rw[CH]at e;have:r∉K:=λh=>by have:=e r h;simp at this
  simp[this]
 | some i=>
  rw[CI]at e;obtain⟨h,h1,_⟩:=e;have:r∈K:=by
   have e2:r=K[i]:=by simpa using h1
   rw[e2];exact AZ h
  rw[if_pos this];simp only[mapB];congr 1;apply B1 (by simp);intro j h1 h2;simp[List.getElem_set]
abbrev q4_(x0:List Nat):=Ae (nsD x0) (Aa x0)
abbrev q5_(x0:List (List Va)):=Ae (Ad rowV x0) (Aa x0)
set_option maxHeartbeats 1000000 in
theorem zXj(A U:List Nat)(a u nv:Nat)(ha:A.length=a)(hu:U.length=u)(la:a<=32)(lu:u<=32)(hA:∀v∈A,v<32)(hU:∀v∈U,v<32)(rows:List (List Va))(n:Nat)(hn:rows.length=n)(ln:n<=1000000)(hr:∀r∈rows,r.length=a)(hv:∀r∈rows,∀v∈r,Vs v)(y:List D)(m:Nat)(hm:m<4294967296):
  Pure Al 92 [.agg [.row (nsD A) a, .row (rows.map rowV) n, .row y nv], .row (nsD U) u,u32D m] [] (.agg (flC (zAu (λv=>(msk A&&&m).testBit v) U,allK (rows.map λr=>zP r (zAu (λv=>(msk A&&&m).testBit v) A))))):=by
 subst hn ha hu;have hma:=zA3 hA;have h1:=zNm A _ rfl (by omega) hA (rows.map rowV) y rows.length nv;have h5:=zMt (b:=m) hma;have h2:=zB0 U U _ rfl hU _ h5;have h3:=zB0 A A _ rfl hA _ h5;refine zH zBf mixed Tryz.func92 rfl<|vAu<|vA<|vr 1 (3<=3)<|vc (h1)<|vrT 2<|vs 15 (Ay<|AI AB<|A1 AB (↑(AH (Ap 32 (↑(msk A):Int)&&&Ap 32 (m:Int))):Int)) (dig (msk A&&&m)) (hd:=by simp(disch:=omega) only[zNy,zA1])<|veT<|vA<|vrT 2<|vc (h2)<|ve (True/\((1=1/\1<=2/\1=1/\2<=2/\True)/\Ab=Ab)/\Ac=Ac/\Ab=Ab/\2=2/\2<=2)<|vA<|vr 3 (True/\0<3)<|vc (h3)<|veT<|zB<|vA<|ve (True/\0<2)<|zF ?_;obtain⟨cA,hcA⟩:∃cA,cA=zAu (λv=>(msk A&&&m).testBit v) A:=⟨_,rfl⟩;obtain⟨cU,hcU⟩:∃cU,cU=zAu (λv=>(msk A&&&m).testBit v) U:=⟨_,rfl⟩;have hcl:∀c∈cA,c<A.length:=λc h=>by
  rw[hcA]at h;simpa using(A7.1 h).1
 have hcn:cA.length<=1000:=by rw[hcA];exact AX (A9 _ _) (by simp;omega)
 rw[<-hcA,<-hcU];refine zQ (λ(i:Nat)=>fr 39 [(6,Ai 1 0),(8,Ai 3 0),(9,(q4_ cA)),(26,(q5_ rows)),(27,iD<|Aa rows),(28,iD i)]) (λi=>[fB1 (.row (nsD A) A.length) (.row (rows.map rowV) rows.length)<|.row y nv,flB1 nl<|.val<|.map Aq,mapB<|allK<|(rows.map λr=>zP r cA).take i,flB1 (.row (nsD cU) cU.length)<|.mref 2]) (λi=>rows.length-i) (λi=>i<=rows.length) 0 ?_ ?_ ?_
 ·omega
 ·refine vk 4
 rintro i h6;rcases AF i rows.length with h7|h7
 ·have hd:((rows.map rowV).drop i).headD .unk=rowV (rows.getD i []):=zEi rowV rows [] i h7;have hm:rows.getD i []∈rows:=by rw[Au,AC h7];exact AZ h7
  have hk:=zJw (rows.getD i []) cA _ _ rfl rfl (by rw[hr _ hm];exact hcl) (hv _ hm) (ln:=by rw[hr _ hm];omega);have hs:=zMw (rows.map λr=>zP r cA) i (by simpa using h7);rw[show(rows.map λr=>zP r cA).getD i []=zP (rows.getD i []) cA by simp[Au,h7]]at hs;generalize allK ((rows.map λr=>zP r cA).take i)=K at*;focus
   refine vAu (zB (vT ((i:Int)<↑(Aa rows)) (vKB (vA (vr 1 (ix ↑i ↑(Aa rows) (Ad rowV rows≠[])) ?_ ⟨(by omega),⟨(by omega),(by exact zX)⟩⟩)))));refine vp 30 i (Ad rowV rows) (vr 1 (0<Aa (Ag i (Ad rowV rows))) (vsh 31 hd (veT (vd [0,2,3,1,4,5] (vr 4 (True/\0<1) (vc hk (vwh 1 [] [] (A_ (mapB K)=Ac/\zS (AO (AP AQ "string" 1 16 Ab 8 8 (Aj (Aw (AR #[]))) Ab #[])) (Aw (bs (idR (zP (Af rows i []) cA))))=Ab/\Bi (Ad kyv K) (zS (AO (AP AQ "string" 1 16 Ab 8 8 (Aj (Aw (AR #[]))) Ab #[])))=Ab/\¬2∈[]) ?_ ?_)))))));rotate_left;refine vnil (zD (vN (zA rfl (vr 2 (i6 (↑i+1)) (vnil (zC ?_))))));rotate_left
  ·exact⟨rfl,rfl,zBt _,by simp⟩
  refine⟨i+1,by omega,by omega,?_⟩;rw[hs];have hmp:=zZa K (zP (rows.getD i []) cA);refine wkn (fr 39 [(6,Ai 1 0),(8,Ai 3 0),(9,(q4_ cA)),(11,Ae (zN (Af rows i [])) (Aa (Af rows i []))),(26,(q5_ rows)),(27,iD (Aa rows)),(28,iD ↑(i+1)),(32,Ai 3 1),(33,Ba 2),(34,Ae (zN (Af rows i [])) (Aa (Af rows i []))),(35,(q4_ cA)),(36,Ay (Aw (bs (idR (zP (Af rows i []) cA))))),(37,iD ↑(i+1))]) [fB1 ((q4_ A)) ((q5_ rows)) (Ae y nv),flB1 nl (Ay (Value.map Aq)),mput (mapB K) (Ad kyv K) (Aw (bs (idR (zP (Af rows i []) cA)))) (bD Ab),flB1 ((q4_ cU)) (Ba 2)] ?_;rw[hmp];refine vk 4
 refine vAu<|zB<|vF ((i:Int)<(Aa rows:Int))<|vZ2<|vA<|ve (2<=2/\Ac=Ac/\Ab=Ab/\2=2/\2<=2)<|zK<|vre (2<=2) (Ar [Ae (nsD cU)<|Aa cU,D.mfz (Ad kyv<|allK<|Am i<|Ad (λ(r:List Va)=>zP r cA) rows)<|Ad (λ(x:List Va)=>bD Ab)<|allK<|Am i<|Ad (λ(r:List Va)=>zP r cA) rows]) (.inr rfl) ?_;rw[AA (by simp;omega)]
end
section
open Go.RowKit Go.Sort Go.Lib Go.Shelf
theorem zPo{st:List Bk}{k n lim:Nat}{e:Bk}{wh:Bool}{zs:List Nat}{cf:Nat->Nat->Int}{g:FuncId}{caps caps':List D}{ks:List Nat}(he:st[k]?=Aj e)(ha:e.arr=Ab)(hkd:e.kd= .plain)(hf:e.fz=Ac)(hc:e.cells=nsD zs)(hn:zs.length=n)(hb:n<=1000000)(hpos:0<n)(hlim:lim<4611686018427387904)
  (hfr:frz Ab st zA6 (.clo (.func g) [] caps)=Aj (.clo (.func g) [] caps',ks))(hnk:k∉ks)(eg:∀args w,(callFunc g args).run Al w= .ok (.enter g args) w)
  (hO:On zs cf)(hcmp:∀x∈zs,∀y∈zs,Pure Al g (iD x::iD y::caps') [] (iD (cf x y))):
  Acts Al 164 [.osl k 0 n n wh, .val (.int .i64 (0:Nat)), .val (.int .i64 n), .val (.int .i64 lim), .clo (.func g) [] caps] st [] (.val (.tuple #[])) ((zAy st ks).set k {e with cells:=nsD (zBp cf zs)}):=by
 have hsl:(zBp cf zs).length=n:=by rw[(zA5 cf zs).length_eq,hn]
 refine zXv (us3:=[.int .i64 0, .int .i64 n, .int .i64 lim]) he ha hkd hf (by rw[hc,AG,hn]) (by rw[AG,hsl]) hpos hfr hnk ?_;intro I b c w us cb hi hgl hno hcb hr hcur hcell hfz hcap;rw[hc]at hr;let α:={z//z∈zs};let xs:List α:=zs.attach;let enc:α->Value:=λx=> .int .i64 (x.1:Nat);have hat:xs.map (·.1)=zs:=List.attach_map_subtype_val zs;have hxl:xs.length=n:=by rw[<-hn,<-AG (f:=λz:α=>z.1),hat]
 have hus:us=xs.map enc:=by
  have:∀(zs:List Nat)(us:List Value),RelL I w noB (nsD zs) us->us=zs.map λz=>AI .i64 (z:Nat):=by
   intro zs;induction zs with
   |nil=>intro us h;simp only[BQ,RelL]at h;rw[h];rfl
   |cons z zs ih=>
    intro us h;simp only[Bf,RelL,Rel]at h;obtain⟨v,us',rfl,_,rfl,h4⟩:=h;rw[ih us' h4];rfl
  rw[this zs us hr];conv=>lhs;rw[<-hat,A4]
  rfl
 obtain⟨x0,hx0⟩:∃x0,xs[0]?=Aj x0:=⟨xs[0]'(by omega),AC (by omega)⟩
 haveI:Inhabited α:=⟨x0⟩;have hH:Holds enc w b 0 xs.toArray:=λj hj=>by
  have hj':j<n:=by simpa[hxl]using hj
  refine⟨?_,hfz j hj'⟩;rw[hcell j hj',hus];simp[Af,hxl,hj']
 obtain⟨cur,t,hcur⟩:=hcur;have hblk:b<w.heap.size:=by
  rw[Array.getElem?_eq_some_iff]at hcur;exact hcur.1
 have hone:OneCell enc:=λx=>rfl;have hworld:∀(m:Nat)(os:Array Obj)(ys:List α),ys.length=n->sortWorld enc w b 0 m ys.toArray os=grow ((w.drewN m).setCells b 0 (ys.map enc)) os:=λm os ys hy=>by
  unfold sortWorld;rw[putRow_eq_setCells enc w b 0 xs.toArray ys m hH (by simp[hy,hxl])]
 have hfix:∀(m:Nat)(os:Array Obj)(dk:Array α),dk.size=n->Fix I w I (sortWorld enc w b 0 m dk os)/\w.heap.size<=(sortWorld enc w b 0 m dk os).heap.size:=λm os dk hd=>by
  have e1:=hworld m os dk.toList (by simpa using hd);simp only[BU]at e1;rw[e1];obtain⟨s1,s2,s3,s4,s5,s6⟩:=zFb b t (dk.toList.map enc) 0 (w.drewN m) cur.toList (by simpa using hcur);refine⟨λb' o' hb'=>?_,?_⟩
  ·have hne:b'≠b:=λe=>hno o' (e▸hb');have hlt:=hi b' o' hb';refine⟨hb',λv hv=>?_,λks vs hm=>?_⟩
   ·simp only[World.cell?]at hv⊢;rw[zE3 _ os (by rw[s3];exact hlt),s2 b' hne];exact hv
   refine hm.of_heap ?_;rw[zE3 _ os (by rw[s3];exact hlt),s2 b' hne];rfl
  simp only[Go.Sort.size_grow,s3];show w.heap.size<=w.heap.size+os.size;omega
 have hcmp:CmpLays1 Al g cb.toArray enc (λx y:α=>cf x.1 y.1) b 0 xs.toArray.size w:=by
  intro m os dk hd x y;have hd':dk.size=n:=by simpa[hxl]using hd
  obtain⟨hfx,hsz⟩:=hfix m os dk hd';have hr2:RelT I (sortWorld enc w b 0 m dk os) noB (iD (x.1:Nat)::iD (y.1:Nat)::caps') (enc x::enc y::cb):=by
   simp only[RelT,Rel];exact⟨_,_,rfl,rfl,_,_,rfl,rfl,RelT.mono hfx noB noB (BeLe.refl _) _ _ hcb⟩
  have e1:(#[enc x,enc y]++cb.toArray)=(enc x::enc y::cb).toArray:=by apply Array.ext';simp
  rw[e1];refine(hcmp x.1 x.2 y.1 y.2 I _ _ hr2 (λb o h=>Ct (hi b o h) hsz) (hgl.mono hfx)).mono ?_;rintro e' w' ⟨v,I',γ,rfl,hx,_,_,_,_,_,_,_,_,hv,_⟩;simp only[Rel]at hv;subst hv;exact⟨rfl,ext_grow hx⟩
 have hsz:xs.toArray.size=n:=by simp[hxl]
 have main:=Tryz.pdqsortCmpFunc_all_f164 enc (λx y:α=>cf x.1 y.1) g cb.toArray hO.swo b 0 c xs.toArray w eg hcmp ⟨hone,hH,hblk⟩ (n+1) 0 n lim xs.toArray w (by omega) rfl (SW.start hH) (Bw _) (by omega) (by omega) hlim (.inl rfl);rw[hsz]at main;refine main.mono ?_;rintro x w' ⟨rfl,q,os,rfl⟩;obtain⟨hp,hso⟩:=pdq_sorts (ltOf λx y:α=>cf x.1 y.1) hO.swo xs.toArray 0 n lim Ab Ab (Bw _) (by omega) (.inl rfl);generalize pdq (ltOf λx y:α=>cf x.1 y.1) xs.toArray 0 n lim Ab Ab=d' at*;have hd':d'.size=n:=by rw[hp.1,hsz]
 have hperm:d'.toList.Perm xs:=by
  have:=hp.2.2
  rw[show d'.extract 0 n=d' by rw[<-hd'];exact Array.extract_size,show xs.toArray.extract 0 n=xs.toArray by rw[<-hsz];exact Array.extract_size]at this;simpa using this
 have hl2:d'.toList.map (·.1)=zBp cf zs:=by
  refine hO.uniq ?_ ?_
  ·have:=hperm.map (·.1)
   rwa[hat]at this
  rw[List.pairwise_map,List.pairwise_iff_getElem];intro i j hi' hj' hij;have hi2:i<d'.size:=by simpa using hi'
  have hj2:j<d'.size:=by simpa using hj'
  have:=hso i j (Bw _) hij (by omega)
  rw[getElem!_pos d' j hj2,getElem!_pos d' i hi2]at this;simpa[ltOf]using this
 refine⟨rfl,d'.toList.map enc,q,os,?_,?_⟩
 ·have:=hworld q os d'.toList (by simpa using hd')
  simp only[BU]at this;rw[this]
 rw[<-hl2];have:∀(l:List α),RelL I w noB (nsD (l.map (·.1))) (l.map enc):=by
  intro l;induction l with
  |nil=>simp only[BQ,RelL]
  |cons x l ih=>
   simp only[Bf,RelL,Rel];exact⟨_,_,rfl,rfl,rfl,by simpa using ih⟩
 exact this _
end
section
open Go.RowKit
attribute [local irreducible] seqW awp zAe zAh zAb Weak updS zAs retL Pure Acts rP setP setQ cP nP fr
set_option maxRecDepth 4096
theorem zXn(cs:List D)(n:Nat)(hl:cs.length=n*1)(hn:n<=1000000000):Pure Al 237 [.row cs n] [⟨cs,27,1,Ab,Ac, .plain⟩] (.osl 0 0 n (n*1) Ab):=by
 by_cases h0:n=0
 ·grind [BG,zXo]
 have h1:0<n:=by omega
 refine zLr zBf mixed Tryz.func237 rfl rfl<|vAu<|zB<|vA<|ve (0<n)<|vf<|vK<|vA<|vr 4 ((True/\0<1/\1=1/\0<=16777216/\0<=9223372036854775807)/\Ab=Ab/\0=0/\0=0/\27=27/\1=1/\Aa cs=n*1/\0<1/\0<4/\27=27/\(0+n)*4<=140737488355328/\1=1/\Ac=Ac/\(Ac=Ac\/Ac=Ab))<|vs 2 (Ah 0 0 (0+n) ((0+n)*1) Ab) (Ah 0 0 n n Ab) (hd:=by simp(disch:=omega) only[BH,AW])<|veT<|zK<|zBh (True) [Ah 0 0 n n Ab] (.inr rfl) ?_;exact⟨0,by simp[oneD],by kernel_rfl⟩
theorem clone_nat(cs:List D)(n:Nat)(hl:cs.length=n*1)(hn:n<=1000000000):Pure Al 237 [.row cs n] [] (.row cs n):=(zXn cs n hl hn).frozen rfl (AA (by show cs.length<=_;omega))
theorem norm_c(l:List Nat)(n:Nat)(hn:l.length=n)(hl:n<=1000000)(hd:Digs l):Pure Al 236 [.row (l.map dig) n] [] (natD (nval l)):=by
 subst hn;have h1:=zMh hd;refine zH zBf mixed Tryz.func236 rfl<|vAu<|vA<|vrT 1<|vc (zF3 l _ rfl hd)<|vca [natD<|nval l] (by exact clone_nat ((dg (nval l)).map dig) _ (by simp) (by omega))<|veT<|zK<|vret (True)<|.inr rfl
def Sm(n:Nat):Prop:=(dg n).length<=1000
theorem zTq{n:Nat}:∀{m:Nat},m<=n->(dg m).length<=(dg n).length:=by
 induction n using Nat.strongRecOn with
 | _ n ih=>
  intro m h;by_cases hm:m=0
  ·subst hm;rw[show dg 0=[] by rw[dg];simp];simp
  have e1:dg m=m%4294967296::dg (m/4294967296):=by rw[dg,dif_neg hm]
  have e2:dg n=n%4294967296::dg (n/4294967296):=by rw[dg,dif_neg (by omega)]
  have h2:(dg (m/4294967296)).length<=(dg (n/4294967296)).length:=ih _ (by omega) (Nat.div_le_div_right h);rw[e1,e2,Bq,Bq];omega
theorem Sm.le{n m:Nat}(h:Sm n)(k:m<=n):Sm m:=AX (zTq k) h
theorem Sm.of{n:Nat}(h:n<340282366920938463463374607431768211456):Sm n:=by
 have:(dg n).length<=4:=by
  rw[dg];split
  ·simp
  rw[Bq,dg];split
  ·simp
  rw[Bq,dg];split
  ·simp
  rw[Bq,dg];split
  ·simp
  rw[Bq,dg,dif_pos (by omega)];simp
 unfold Sm;omega
theorem Sm.len{n:Nat}(h:Sm n):(dg n).length<=1000:=h
theorem nadd_c(a b:Nat)(ha:Sm a)(hb:Sm b):Pure Al 229 [natD a,natD b] [] (natD (a+b)):=by
 have h:=add_c (dg a) (dg b) _ _ rfl rfl (by have:=ha.len;omega) (by have:=hb.len;omega) (zB9 _) (zB9 _);rwa[zB7,zB7]at h
theorem nmul_c(a b:Nat)(ha:Sm a)(hb:Sm b):Pure Al 230 [natD a,natD b] [] (natD (a*b)):=by
 have h:=mul_c (dg a) (dg b) _ _ rfl rfl (by have:=ha.len;omega) (by have:=hb.len;omega) (zB9 _) (zB9 _);rwa[zB7,zB7]at h
theorem zRj(a b:Nat)(ha:Sm a)(hb:Sm b):Pure Al 14 [natD a,natD b] [] (iD (cmpD a b)):=by
 have h:=cmp_c (dg a) (dg b) _ _ rfl rfl (by have:=ha.len;omega) (by have:=hb.len;omega) (zB9 _) (zB9 _);rwa[zB7,zB7]at h
theorem nnorm_c(a:Nat)(ha:Sm a):Pure Al 236 [natD a] [] (natD a):=by
 have h:=norm_c (dg a) _ rfl (by have:=ha.len;omega) (zB9 _);rwa[zB7]at h
theorem zRk:natD 0= .row [] 0:=by simp[natD,digR,dg]
theorem zD9(l:List Nat)(k:Nat)(h:k<l.length):((l.map natD).drop k).headD .unk=natD (l.getD k 0):=zEi natD l 0 k h
theorem sum_le(l:List Nat)(k:Nat):(l.take k).sum<=l.sum:=by
 conv=>rhs;rw[<-List.take_append_drop k l,List.sum_append]
 omega
theorem zN0(n:Nat)(hn:n<18446744073709551616):Pure Al 152 [.val (.int .u64 n)] [] (.val (.int .i64 (Bx n))):=
 zC5 (us:=[.int .u64 n]) (λw=>(Tryz.bits_Len n w (by omega) (by omega)).mono λe w' h=>⟨by rw[h.1];simp,h.2.symm⟩)
theorem zY(l:List (List Va))(k:Nat)(h:k<l.length):((l.map rowV).drop k).headD .unk=rowV (l.getD k []):=zEi rowV l [] k h
def Ts:Par:=⟨λf=>f==143||f==164||f==178,λ_ _=>Aq,λk=>decide (k<3),λ_=>Ac,λ_=>Ac⟩
theorem zHn:zCe Al Ts:=by intro t n f h;cases h
theorem zKs{st:List Bk}(h:st.length=3):∀k,k<st.length->Ts.keep k=true:=λk hk=>by
 show decide (k<3)=Ab;rw[decide_eq_true_eq];omega
theorem zNk:∀k,3<=k->Ts.keep k=false:=λk hk=>by
 show decide (k<3)=Ac;rw[decide_eq_false_iff_not];omega
theorem less_c(rows:List (List Va))(n:Nat)(x y:D)(hn:rows.length=n)(i j:Nat)(hi:i<n)(hj:j<n)(hl:∀r∈rows,r.length<=1000000):Pure Al 144 [iD i,iD j, .ptr [x, .row (rows.map rowV) n,y]] [] (iD (zAf rows i j)):=by
 subst hn;have g:∀i,i<rows.length->(rows.getD i []).length<=1000000:=λi hi=>by
  rw[Au,AC hi];exact hl _ (AZ hi)
 have g1:=g i hi;have g2:=g j hj;refine zH zHn mixed Tryz.func144 rfl<|vAu<|zB<|vd [0,2,5,7,1,3,4,6,8,9,10,11]<|vr 6 (True/\True/\0<2/\ix (i:Int) (Aa rows:Int) (Ad rowV rows≠[])) (vp 9 (i) (Ad rowV rows)<|vr 1 (0<Aa (Ag i<|Ad rowV rows))<|vs 10 (AJ (Ag i<|Ad rowV rows) Uk) (rowV<|Af rows i []) (hd:=by simp(disch:=omega) only[zY])<|vr 2 (0<2/\ix (j:Int) (Aa rows:Int) (Ad rowV rows≠[])) (vp 14 (j) (Ad rowV rows)<|vr 1 (0<Aa (Ag j<|Ad rowV rows))<|vs 15 (AJ (Ag j<|Ad rowV rows) Uk) (rowV<|Af rows j []) (hd:=by simp(disch:=omega) only[zY]) ?_) ⟨(by omega),⟨(by omega),⟨(by omega),(by exact zX)⟩⟩⟩) ⟨trivial,trivial,(by omega),⟨(by omega),⟨(by omega),(by exact zX)⟩⟩⟩;refine vca [Ae (zN<|Af rows i [])<|Aa<|Af rows i [],Ae (zN<|Af rows j [])<|Aa<|Af rows j []] (by exact zD8 _ _ _ _ rfl rfl (by omega) (by omega))<|veT<|zK<|vret (True)<|.inr rfl
theorem zXh(b0 b1 b2:Bk)(c:List D):Acts Al 178 [.osl 2 0 0 0 Ab, .val (.int .i64 0), .val (.int .i64 0), .clo (.func 144) [] [.own 0 0]] [b0,b1,b2] [] (.tup []) [b0,b1,b2]:=by
 refine zA8 zHn mixed Tryz.func178 rfl (zKs rfl)<|vAs<|ve (i6 ((0:Int)+(1:Int)))<|zF<|zQ (λ(i:Nat)=>fr 53 [(0,Ah 2 0 0 0 Ab),(1,iD 0),(2,iD 0),(3,AS (Fn.func (144:FuncId)) [] [Ai 0 0]),(8,iD 1)]) (λ(i:Nat)=>[b0,b1,b2]) (λ(i:Nat)=>0) (λ(i:Nat)=>True) 0 ?_ ?_ ?_
 ·trivial
 ·refine vk 3 ?_;exact zNk
 rintro i-
 refine zB<|vAu<|vf<|vY2<|zBh (True) [] (.inl rfl) ?_;exact⟨by kernel_rfl,by kernel_rfl⟩
theorem pdq0(b0 b1 b2:Bk)(c:List D)(lim:Int):Acts Al 164 [.osl 2 0 0 0 Ab, .val (.int .i64 0), .val (.int .i64 0), .val (.int .i64 lim), .clo (.func 144) [] [.own 0 0]] [b0,b1,b2] [] (.tup []) [b0,b1,b2]:=by
 refine zA8 zHn mixed Tryz.func164 rfl (zKs rfl)<|vAu<|vAe<|zF<|zQ (λ(i:Nat)=>fr 148 [(0,Ah 2 0 0 0 Ab),(1,iD 0),(2,iD 0),(3,iD lim),(4,AS (Fn.func (144:FuncId)) [] [Ai 0 0]),(10,bD Ab),(11,bD Ab)]) (λ(i:Nat)=>[b0,b1,b2]) (λ(i:Nat)=>0) (λ(i:Nat)=>True) 0 ?_ ?_ ?_
 ·trivial
 ·refine vk 3 ?_;exact zNk
 rintro i-
 refine zF<|vAs<|ve (i6 ((0:Int)-(0:Int)))<|zB<|vAe<|vt<|vA<|vrT 4<|vnt [b0,b1,b2]<|zEw [] [] [Ah 2 0 0 0 Ab,iD 0,iD 0,AS (Fn.func 144) [] [Ai 0 0]] [Ah 2 0 0 0 Ab,iD 0,iD 0,AS (Fn.func 144) [] [Ai 0 0]] (By _) (by exact zXh _ _ _ []) ?_;refine v0s<|veT<|zK<|zG<|zL<|zG<|zL ?_;refine zBh (True) [] (.inr rfl) ?_;exact⟨by kernel_rfl,by kernel_rfl⟩
set_option maxHeartbeats 1000000 in
theorem zW5(A:List D)(a:Nat)(ys:List D)(m:Nat)(rows:List (List Va))(n:Nat)(b1:Bk)(hn:rows.length=n)(hb:n<=1000000)(hl:∀r∈rows,r.length<=1000000)(hd:rows.Nodup):Acts Al 143 [.osl 2 0 n n Ab, .clo (.func 144) [] [.own 0 0]] [fB1 (.row A a) (.row (rows.map rowV) n) (.row ys m),b1,intB (nsD (Av n))] [] (.tup []) [⟨[.row A a, .row (rows.map rowV) n, .row ys m],90,0,Ac,if n=0 then Ac else Ab, .plain⟩,b1,intB (nsD (zBp (zAf rows) (Av n)))]:=by
 have hlim:Bx n<4611686018427387904:=Cu (Lib.bitLen_le n 62 (by omega) (by omega)) (by omega);rcases Cj n with h0|hpos
 ·subst h0;refine zA8 zHn mixed Ck rfl (zKs rfl)<|vAu<|zA rfl<|vr 4 (u6 (↑(0:Nat):Int))<|vc (zN0 0 (by omega))<|vrT 1<|vnt [fB1 (Ae A a) (Ae (Ad rowV rows) 0)<|Ae ys m,b1,intB<|nsD<|Av 0]<|zEw [] [] [Ah 2 0 0 0 Ab,iD 0,iD (↑(0:Nat):Int),iD (↑(0:Nat):Int),AS (Fn.func 144) [] [Ai 0 0]] [Ah 2 0 0 0 Ab,iD 0,iD (↑(0:Nat):Int),iD (↑(0:Nat):Int),AS (Fn.func 144) [] [Ai 0 0]] (By _) (by exact pdq0 _ _ _ [] _) ?_;refine vnil<|zBh (True) [] (.inl rfl) ?_;exact⟨rfl,by simp[zBp]⟩
 have ho:=zPf hd;rw[hn]at ho;have hp:=zPo (st:=[fB1 (.row A a) (.row (rows.map rowV) n) (.row ys m),b1,intB (nsD (Av n))]) (k:=2) (lim:=Bx n) (wh:=Ab) (cf:=zAf rows) (g:=144) (caps:=[.own 0 0]) (caps':=[.ptr [.row A a, .row (rows.map rowV) n, .row ys m]]) (ks:=[0]) rfl rfl rfl rfl rfl (by simp) hb hpos hlim rfl (by decide) (enters_of Tryz.func144 (by kernel_rfl) rfl) ho
  (λx hx y hy=>less_c rows n _ _ hn x y (by simpa using hx) (by simpa using hy) hl)
 refine zA8 zHn mixed Ck rfl (zKs rfl)<|vAu<|zA rfl<|vr 4 (u6 (n:Int))<|vc (zN0 n (by omega))<|vrT 1<|vnt [fB1 (Ae A a) (Ae (Ad rowV rows) n)<|Ae ys m,b1,intB<|nsD<|Av n]<|zEw [] [] [Ah 2 0 n n Ab,iD 0,iD (n:Int),iD (↑(Bx n):Int),AS (Fn.func 144) [] [Ai 0 0]] [Ah 2 0 n n Ab,iD 0,iD (n:Int),iD (↑(Bx n):Int),AS (Fn.func 144) [] [Ai 0 0]] (By _) (by exact hp) ?_;refine vnil<|zBh (True) [] (.inl rfl) ?_;refine⟨rfl,?_⟩;first|(rw[if_neg (by omega)];done)|(rw[if_neg (by omega)];rfl)
theorem zSp(n:Nat):repL n [.val (.int .i64 0)]=nsD (Cv n 0):=by
 induction n with
 |zero=>rfl
 |succ n ih=>simp only[repL,List.replicate_succ,List.flatten_cons]at ih⊢;rw[ih];rfl
theorem zYh(l:List Nat)(i k:Nat):(nsD l).set i (iD k)=nsD (l.set i k):=by simp
abbrev rowB(l:List D):Bk:=⟨l,110,1,Ab,Ac, .plain⟩
abbrev natB(l:List D):Bk:=⟨l,50,1,Ab,Ac, .plain⟩
def Tq:Par:=⟨λf=>f==143,λ_ _=>Aq,λ_=>Ac,λ_=>Ac,λ_=>Ac⟩
theorem zQg:zCe Al Tq:=by intro t n f h;cases h
set_option maxHeartbeats 2000000 in
theorem sortedW(A:List Nat)(a:Nat)(rows:List (List Va))(vals:List Nat)(n:Nat)(hn:rows.length=n)(hm:vals.length=n)(hb:n<=1000000)(hl:∀r∈rows,r.length<=1000000)(hd:rows.Nodup):
  Pure Al 97 [.agg [.row (nsD A) a, .row (rows.map rowV) n, .row (vals.map natD) n]] [] (.agg [.row (nsD A) a, .row (((zBp (zAf rows) (Av n)).map λi=>rows.getD i []).map rowV) n, .row (((zBp (zAf rows) (Av n)).map λi=>vals.getD i 0).map natD) n]):=by
 have hs:=zW5 (nsD A) a (vals.map natD) n rows n (fB1 nl nl nl) hn hb hl hd;refine zH zQg mixed Tryz.func97 rfl<|vAu<|vA<|vr 5 (True/\0<2/\(0:Int)<=(n:Int)/\(n:Int)<=(n:Int)/\(↑(8:Nat):Int)*(n:Int)<=(281474976710656:Int)/\(n:Int)<=(281474976710656:Int)/\0<1/\1=1)<|vs 3 (Ah 2 0 (A5 (n:Int)) (A5 (n:Int)*1) Ab) (Ah 2 0 n n Ab) (hd:=by simp(disch:=omega) only[Br,AW])<|veT<|zB<|vAe<|zF<|zA2 (λ(i:Nat)(c:List Nat)=>fr 56 [(1,Ai 0 0),(2,Ai 1 0),(3,Ah 2 0 n n Ab),(13,iD (n:Int)),(14,iD (i:Int))]) (λ(i:Nat)(c:List Nat)=>[fB1 (.row (nsD A) a) (.row (rows.map rowV) n)<|.row (vals.map natD) n,fB1 nl nl nl,intB<|nsD c]) (λi c=>n-i) (λ(i:Nat)(c:List Nat)=>i<=n/\c.length=n/\c.take i=(Av n).take i) 0 (Cv n 0) ?_ ?_ ?_
 ·exact⟨by omega,by simp,by simp⟩
 ·refine wkn (fr 56 [(1,Ai 0 0),(2,Ai 1 0),(3,Ah 2 0 n n Ab),(13,iD (↑n:Int)),(14,iD 0)]) [An [Ae (nsD A) a,Ae (Ad rowV rows) n,Ae (Ad natD vals) n] 90 0 Ac Ac Ao,An [nl,nl,nl] 90 0 Ac Ac Ao,An (repL n [iD 0]) 3 1 Ab Ac (kdOf Ac)] (zKw [(1,1),(2,1),(3,1),(13,1),(14,1)] (Ai 0 0=Ai 0 0/\Ai 1 0=Ai 1 0/\Ah 2 0 n n Ab=Ah 2 0 n n Ab/\iD (↑n:Int)=iD (↑n:Int)/\iD 0=iD (↑(0:Nat):Int)) 3 [] (by kernel_rfl) ⟨rfl,rfl,rfl,rfl,(by kernel_rfl)⟩ (by kernel_rfl) (λ_ _=>rfl) (by simp[updB,zSp,zGu]))
 rintro i c ⟨h1,h2,h3⟩;rcases AF i n with h4|h4
 ·refine vAu<|zB<|vT ((i:Int)<(n:Int))<|vKB<|vAe<|zA rfl<|vr 4 ((0:Int)<=(i:Int)/\(i:Int)<(n:Int))<|vo 20 2 (i)<|vr 1 (A_ (intB<|nsD c)=Ac/\Ab=Ab/\1=1/\i+1<=Aa (Az<|intB<|nsD c)/\¬2∈[])<|vnil<|zD<|vN<|zA rfl<|vr 2 (i6 ((i:Int)+(1:Int)))<|vnil<|zC<|⟨i+1,c.set i i,⟨by omega,by simpa using h2,?_⟩,by omega,?_⟩
  ·have:=zKz 0 (a:=c) (b:=Av n) (i:=i) (by omega) (by simpa using h4) h3
   rwa[show(Av n).getD i 0=i by simp[Au,h4]]at this
  rw[<-zYh];refine vk 3
 have e:c=Av n:=by
  have e1:i=n:=by omega
  rw[e1,AA (by omega),AA (by simp)]at h3;exact h3
 subst e;refine vAu<|zB<|vF ((i:Int)<↑n)<|vZ2<|vA<|vrT 2<|vnt [fB1 (Ae (nsD A) a) (Ae (Ad rowV rows) n)<|Ae (Ad natD vals) n,fB1 nl nl nl,intB<|nsD<|Av n]<|zEw [] [] [Ah 2 0 n n Ab,AS (Fn.func 144) [] [Ai 0 0]] [Ah 2 0 n n Ab,AS (Fn.func 144) [] [Ai 0 0]] (By _) (by exact hs) ?_;refine v0s<|veT<|vA<|vr 5 (True/\0<3/\((1=1/\1<=3/\True)/\Ab=Ab)/\Ac=Ac/\Ab=Ab/\3=3/\3<=3)<|vnil<|zC<|vnn (fr 56 [(1,Ai 0 0),(2,Ai 1 0),(3,Ah 2 0 n n Ab),(5,Ai 3 0),(25,Ai 0 0),(26,Ae (nsD A) a),(27,Ar [Ae (nsD A) a,nl,nl])]) [An [Ae (nsD A) a,Ae (Ad rowV rows) n,Ae (Ad natD vals) n] 90 0 Ac (if n=0 then Ac else Ab) Ao,An [nl,nl,nl] 90 0 Ac Ac Ao,An (nsD<|zBp (zAf rows)<|Av n) 3 1 Ab Ac Ao,An [Ae (nsD A) a,nl,nl] 90 0 Ac Ac Ao]<|zAw ((Bb (j:=3) (i:=1) (rowB []) rfl rfl rfl rfl).trans<|Bb (j:=3) (i:=2) (natB []) rfl rfl rfl rfl) ?_;refine zB<|vAu<|zF ?_;have hol:(zBp (zAf rows) (Av n)).length=n:=by rw[(zA5 _ _).length_eq];simp
 have hom:∀i∈zBp (zAf rows) (Av n),i<n:=λi h=>by
  have:=(zA5 _ _).mem_iff.1 h
  simpa using this
 generalize zBp (zAf rows) (Av n)=od at*;refine zQ (λ(t:Nat)=>fr 56 [(1,Ai 0 0),(2,Ai 1 0),(5,Ai 3 0),(28,Ah 2 0 n n Ab),(29,iD n),(30,iD t)]) (λ(t:Nat)=>[⟨[.row (nsD A) a,.row (rows.map rowV) n,.row (vals.map natD) n],90,0,Ac,if n=0 then Ac else Ab,.plain⟩,fB1 nl nl nl,intB<|nsD od,fB1 (.row (nsD A) a) (.osl 4 0 t t Ab)<|.osl 5 0 t t Ab,rowB<|((od.take t).map λi=>rows.getD i []).map rowV,natB<|((od.take t).map λi=>vals.getD i 0).map natD]) (λt=>n-t) (λ(t:Nat)=>t<=n) 0 ?_ ?_ ?_
 ·omega
 ·refine vk 6
 rintro t h5;rcases AF t n with h6|h6
 ·have hi:=hom _ (zBv od t (by omega));have e0:od.take (t+1)=od.take t++[od.getD t 0]:=by
   rw[Bh (by omega),Au,AC (by omega)];rfl
  have e1:((od.take (t+1)).map λi=>rows.getD i []).map rowV=((od.take t).map λi=>rows.getD i []).map rowV++[rowV (rows.getD (od.getD t 0) [])]:=by rw[e0];simp
  have e2:((od.take (t+1)).map λi=>vals.getD i 0).map natD=((od.take t).map λi=>vals.getD i 0).map natD++[natD (vals.getD (od.getD t 0) 0)]:=by rw[e0];simp
  focus
   refine vAu<|zB<|vT ((t:Int)<↑n)<|vKB<|vA<|vr 1 ((0:Int)<=(t:Int)/\(t:Int)<↑n)<|vo 32 2 t<|vr 1 (0<Aa (Ag t<|Az<|intB<|nsD od))<|vs 33 (AJ (Ag t<|Az<|intB<|nsD od) Uk) (iD ↑(Af od t 0)) (hd:=by simp(disch:=omega) only[zAi])<|veT<|zB<|vd [0,2,4,1,3,5,6,7,8,9,10]<|vr 6 (True/\True/\0<2/\0<2/\ix ↑(Af od t 0) ↑n (Ad rowV rows≠[])) (vp 39 (Af od t 0) (Ad rowV rows) ?_) ⟨trivial,trivial,(by omega),(by omega),⟨(by omega),⟨(by omega),(by exact zX)⟩⟩⟩;refine vwh 1 [] [] (0<Aa (Ag (Af od t 0)<|Ad rowV rows)) ?_ ?_;rotate_left;refine vs 40 (AJ (Ag (Af od t 0)<|Ad rowV rows) Uk) (rowV<|Af rows (Af od t 0) []) (hd:=by simp(disch:=omega) only[zY])<|vr 4 (((1=1/\1<=1/\True)/\0<1/\1=1/\1<=16777216/\1<=9223372036854775807)/\(AV (rowB<|Ad rowV<|Ad (λ(i:Nat)=>Af rows i [])<|Am t od)=Ab/\Aa (Az<|rowB<|Ad rowV<|Ad (λ(i:Nat)=>Af rows i [])<|Am t od)=t*1/\t=t*1/\AM (rowB<|Ad rowV<|Ad (λ(i:Nat)=>Af rows i [])<|Am t od)=110/\AN (rowB<|Ad rowV<|Ad (λ(i:Nat)=>Af rows i [])<|Am t od)=1/\1=1/\0<1/\0<24/\110=110/\(t+1)*24<=140737488355328/\1=1/\AK (Ax<|rowB<|Ad rowV<|Ad (λ(i:Nat)=>Af rows i [])<|Am t od)=Ac/\(Ac=Ac\/AL (Ax<|rowB<|Ad rowV<|Ad (λ(i:Nat)=>Af rows i [])<|Am t od)=Ab))/\True/\Ac=Ac/\Ab=Ab/\1=1/\2<=3)<|vb 3 (An [Ae (nsD A) a,Ah 4 0 (t+1) ((t+1)*1) Ab,Ah 5 0 t t Ab] 90 0 Ac Ac Ao) (An [Ae (nsD A) a,Ah 4 0 (t+1) (t+1) Ab,Ah 5 0 t t Ab] 90 0 Ac Ac Ao) (hd:=by simp(disch:=omega) only[AW])<|veT<|vd [0,2,4,1,3,5,6,7,8,9,10]<|vr 6 (True/\True/\0<1/\0<1/\ix ↑(Af od t 0) ↑n (Ad natD vals≠[])) ?_ ⟨trivial,trivial,(by omega),(by omega),⟨(by omega),⟨(by omega),(by exact zX)⟩⟩⟩;refine vp 49 (Af od t 0) (Ad natD vals)<|vwh 1 [] [] (0<Aa (Ag (Af od t 0)<|Ad natD vals)) ?_ ?_;rotate_left;refine vs 50 (AJ (Ag (Af od t 0)<|Ad natD vals) Uk) (natD<|Af vals (Af od t 0) 0) (hd:=by simp(disch:=omega) only[zD9])<|vr 4 (((1=1/\1<=1/\True)/\0<1/\1=1/\1<=16777216/\1<=9223372036854775807)/\(Ab=Ab/\Aa (Ad natD<|Ad (λ(i:Nat)=>Af vals i 0)<|Am t od)=t*1/\t=t*1/\50=50/\1=1/\1=1/\0<1/\0<24/\50=50/\(t+1)*24<=140737488355328/\1=1/\AK Ao=Ac/\(Ac=Ac\/AL Ao=Ab))/\True/\Ac=Ac/\Ab=Ab/\1=1/\3<=3)<|vb 3 (An [Ae (nsD A) a,Ah 4 0 (t+1) (t+1) Ab,Ah 5 0 (t+1) ((t+1)*1) Ab] 90 0 Ac Ac Ao) (An [Ae (nsD A) a,Ah 4 0 (t+1) (t+1) Ab,Ah 5 0 (t+1) (t+1) Ab] 90 0 Ac Ac Ao) (hd:=by simp(disch:=omega) only[AW])<|vnil<|zD<|vN<|zA rfl<|vr 2 (i6 (↑t+1))<|vnil<|zC ?_;rotate_left
  ·rw[BV,AG];omega
  ·rw[BV,AG];omega
  refine⟨t+1,by omega,by omega,?_⟩;rw[e1,e2];refine vk 6
 refine vAu<|zB<|vF ((t:Int)<(n:Int))<|vZ2<|vA<|ve (3<=3/\Ac=Ac/\Ab=Ab/\3=3/\3<=3)<|zK<|zBr (3<=3) (Ar [Ae (nsD A) a,Ae (Am t<|Ag 0<|Az<|rowB<|Ad rowV<|Ad (λ(i:Nat)=>Af rows i [])<|Am t od) t,Ae (Am t<|Ag 0<|Az<|natB<|Ad natD<|Ad (λ(i:Nat)=>Af vals i 0)<|Am t od) t]) (Ar [Ae (nsD A) a,Ae (Am t<|Ad rowV<|Ad (λ(i:Nat)=>Af rows i [])<|Am t od) t,Ae (Am t<|Ad natD<|Ad (λ(i:Nat)=>Af vals i 0)<|Am t od) t]) (.inr rfl) (by simp(disch:=omega) only[AY]) ?_ (hc:=by omega);have e:t=n:=by omega
 subst e;rw[AA (by omega:od.length<=t),AA (by simp[hol]),AA (by simp[hol])]
abbrev rwsD(l:List (Rw×Nat)):List D:=(l.map (·.1)).map rowV
abbrev vlsD(l:List (Rw×Nat)):List D:=(l.map (·.2)).map natD
abbrev fcD(A:List Nat)(l:List (Rw×Nat)):D:= .agg [.row (nsD A) A.length, .row (rwsD l) l.length, .row (vlsD l) l.length]
theorem zPa{α:Type}[Inhabited α]{l:List (Rw×α)}(h:Ndk l):(srtL l).length=l.length:=by
 rw[<-zCn h,AG,(zA5 _ _).length_eq];simp
theorem zVk(A:List Nat)(l:List (Rw×Nat))(hb:l.length<=1000000)(hl:∀p∈l,p.1.length<=1000000)(hd:Ndk l):Pure Al 97 [fcD A l] [] (fcD A (srtL l)):=by
 have h:=sortedW A A.length (l.map (·.1)) (l.map (·.2)) l.length (by simp) (by simp) hb (λr hr=>by
  obtain⟨p,hp,rfl⟩:=AD.1 hr;exact hl p hp) (show(l.map (·.1)).Nodup from hd)
 have hi:∀i∈zBp (zAf (l.map (·.1))) (Av l.length),i<l.length:=λi h=>by
  have:=(zA5 _ _).mem_iff.1 h
  simpa using this
 have e1:(zBp (zAf (l.map (·.1))) (Av l.length)).map (λi=>(l.map (·.1)).getD i [])=(srtL l).map (·.1):=by
  rw[<-zCn hd,A4];refine BC λi hh=>?_;simp[Au,hi i hh]
 have e2:(zBp (zAf (l.map (·.1))) (Av l.length)).map (λi=>(l.map (·.2)).getD i 0)=(srtL l).map (·.2):=by
  rw[<-zCn hd,A4];refine BC λi hh=>?_;simp[Au,hi i hh]
 rw[e1,e2]at h;have e3:=zPa hd;show Pure Al _ _ [] (.agg [.row (nsD A) A.length, .row (rwsD (srtL l)) (srtL l).length, .row (vlsD (srtL l)) (srtL l).length]);rw[e3];exact h
theorem zTr(z:Nat)(hz:z=0):Pure Al 228 [.agg []] [] (natD z):=by
 refine zH zBf mixed Tryz.func228 rfl<|vAu<|vAe<|zK<|vre (True) (Ae [] 0) (.inr rfl) ?_;rw[hz,zRk]
theorem cone_c(o:Nat)(ho:o=1):Pure Al 227 [.agg []] [] (natD o):=by
 have h:=of_c 1 (by decide);rw[<-ho]at h;refine zH zBf mixed Tryz.func227 rfl ?_;subst ho;refine vAu<|vA<|vc h<|veT<|zK<|vret (True)<|.inr rfl
theorem cadd_c(a b:Nat)(ha:Sm a)(hb:Sm b):Pure Al 225 [.agg [],natD a,natD b] [] (natD (a+b)):=by
 refine zH zBf mixed Tryz.func225 rfl<|vAu<|vA<|vrT 2<|vc (nadd_c a b ha hb)<|veT<|zK<|vret (True)<|.inr rfl
theorem cmul_c(a b:Nat)(ha:Sm a)(hb:Sm b):Pure Al 226 [.agg [],natD a,natD b] [] (natD (a*b)):=by
 refine zH zBf mixed Tryz.func226 rfl<|vAu<|vA<|vrT 2<|vc (nmul_c a b ha hb)<|veT<|zK<|vret (True)<|.inr rfl
abbrev cntD:D:= .ifc 29 (.agg [])
noncomputable abbrev Tc:Par:=TM Al (λ_=>Ac) (λ_=>Ac)
abbrev mapI(K:List Rw):Bk:=⟨nsD (Av K.length),262,0,Ab,Ac, .map (K.map kyv)⟩
theorem zY9(K:List Rw)(r:Rw)(h:r∉K):mput (mapI K) (K.map kyv) (kyv r) (iD K.length)=mapI (K++[r]):=by
 unfold mput;rw[zD3,zBw,if_neg h];simp[List.range_succ]
abbrev q6_(x0:List (List Va×Nat)):=Ae (rwsD x0) (Aa x0)
set_option maxHeartbeats 4000000 in
theorem sumOut_c(A:List Nat)(l:List (Rw×Nat))(v:Int)(ha:A.length<=32)(hb:l.length<=1000000)(hl:∀p∈l,p.1.length=A.length)(hv:∀p∈l,∀x∈p.1,Vs x)(hs:Sm (l.map (·.2)).sum):
  Pure Al 91 [cntD,fcD A l,iD v] [] (fcD ((zAu (λu=>decide ((u:Int)≠v)) A).map λj=>A.getD j 0) (srtL (sumT (· +·) [] (l.map λp=>(zP p.1 (zAu (λu=>decide ((u:Int)≠v)) A),p.2))))):=by
 refine zH (T:=Tc) (zGl _ _ _) mixed Tryz.func91 rfl<|vAu<|vAe<|vA<|vrT 1<|vnil<|zC<|vnn (fr 108 [(0,cntD),(2,iD v),(4,Ai 0 0),(6,Ai 1 0),(7,nl),(8,Ai 2 0)]) [An [Ae (nsD A)<|Aa A,Ae (rwsD l)<|Aa l,Ae (vlsD l)<|Aa l] 90 0 Ac Ac Ao,An [nl,nl,nl] 90 0 Ac Ac Ao,An [nl,nl,nl] 90 0 Ac Ac Ao]<|zAw (Bb (j:=2) (i:=0) (intB []) rfl rfl rfl rfl) ?_;refine zB<|vAs<|ve (True/\0<3)<|zF<|zA2 (λ(i:Nat)(c:List Nat)=>fr 108 [(0,cntD),(2,iD v),(4,Ai 0 0),(6,Ai 1 0),(7,Ah 4 0 (Aa c) (Aa c) Ab),(8,Ai 2 0),(20,(q4_ A)),(21,iD<|Aa A),(22,iD i)]) (λ(i:Nat)(c:List Nat)=>[fB1 (.row (nsD A) A.length) (.row (rwsD l) l.length)<|.row (vlsD l) l.length,fB1 nl nl nl,fB1 (.osl 3 0 c.length c.length Ab) nl nl,intB<|nsD (c.map λj=>A.getD j 0),intB<|nsD c]) (λi c=>A.length-i) (λ(i:Nat)(c:List Nat)=>i<=A.length/\c=((Av A.length).take i).filter λj=>decide (((A.getD j 0:Nat):Int)≠v)) 0 [] ?_ ?_ ?_
 ·exact⟨by omega,by simp⟩
 ·refine vk 4
 rintro i c ⟨h1,h2⟩;have hlen:c.length<=32:=by rw[h2];exact AX (A9 _ _) (by simp;omega)
 rcases AF i A.length with h3|h3
 ·have h4:=zJb (λu=>decide ((u:Int)≠v)) A i h3;rw[<-h2]at h4;focus
   refine vAu<|zB<|vT ((i:Int)<↑(Aa A))<|vKB<|vA<|vr 2 (ix ↑i ↑(Aa A) (nsD A≠[])) ?_ ⟨(by omega),⟨(by omega),(by exact zX)⟩⟩;refine vp 25 i (nsD A)<|vr 1 (0<Aa (Ag i<|nsD A))<|vs 26 (AJ (Ag i<|nsD A) Uk) (iD ↑(Af A i 0)) (hd:=by simp(disch:=omega) only[zAi])<|veT<|vAe<|zAa (t:=(↑(Af A i 0):Int)!=v) (by kernel_rfl) (λhc=>?_)<|λhc=>?_;simp only[bne_iff_ne]at hc;refine vA<|vr 5 (((1=1/\1<=1/\True)/\0<1/\1=1/\1<=16777216/\1<=9223372036854775807)/\AV (intB<|nsD c)=Ab/\Aa (Az<|intB<|nsD c)=Aa c*1/\Aa c=Aa c*1/\AM (intB<|nsD c)=3/\AN (intB<|nsD c)=1/\1=1/\0<1/\0<8/\3=3/\(Aa c+1)*8<=140737488355328/\1=1/\AK (Ax<|intB<|nsD c)=Ac/\(Ac=Ac\/AL (Ax<|intB<|nsD c)=Ab))<|vs 7 (Ah 4 0 (Aa c+1) ((Aa c+1)*1) Ab) (Ah 4 0 (Aa c+1) (Aa c+1) Ab) (hd:=by simp(disch:=omega) only[AW])<|veT<|zA rfl<|vr 7 (True/\0<3/\((1=1/\1<=1/\True)/\0<1/\1=1/\1<=16777216/\1<=9223372036854775807)/\(Ab=Ab/\Aa (nsD<|Ad (λ(j:Nat)=>Af A j 0) c)=Aa c*1/\Aa c=Aa c*1/\3=3/\1=1/\1=1/\0<1/\0<8/\3=3/\(Aa c+1)*8<=140737488355328/\1=1/\AK Ao=Ac/\(Ac=Ac\/AL Ao=Ab))/\True/\Ac=Ac/\Ab=Ab/\1=1/\1<=3)<|vb 2 (An [Ah 3 0 (Aa c+1) ((Aa c+1)*1) Ab,nl,nl] 90 0 Ac Ac Ao) (An [Ah 3 0 (Aa c+1) (Aa c+1) Ab,nl,nl] 90 0 Ac Ac Ao) (hd:=by simp(disch:=omega) only[AW])<|vnil<|zD<|vN<|zA rfl<|vr 2 (i6 (↑i+1))<|vnil<|zC ?_;rotate_left;simp only[bne_eq_false_iff_eq]at hc;refine zJ<|zD<|vN<|zA rfl<|vr 2 (i6 (↑i+1))<|vnil<|zC ?_;rotate_left
  ·rw[if_pos (by simpa using hc)]at h4;refine⟨i+1,c++[i],⟨by omega,h4.symm⟩,by omega,?_⟩;rw[show nsD ((c++[i]).map λj=>A.getD j 0)=nsD (c.map λj=>A.getD j 0)++[iD (A.getD i 0:Nat)] by simp,zLx,A8];refine vk 5
  rw[if_neg (by simpa using hc),Bs]at h4;refine⟨i+1,c,⟨by omega,h4.symm⟩,by omega,?_⟩;refine vk 5
 have ec:c=zAu (λu=>decide ((u:Int)≠v)) A:=by
  rw[AA (by simpa using h3)]at h2;exact h2
 rw[<-ec];clear h1 h2;refine vAu<|zB<|vF ((i:Int)<↑(Aa A))<|vZ2<|vA<|vrT 2<|vnil<|zC<|vnn (fr 108 [(0,cntD),(2,iD v),(4,Ai 0 0),(6,Ai 1 0),(7,Ah 4 0 (Aa c) (Aa c) Ab),(8,Ai 2 0),(11,Ba 5),(20,(q4_ A)),(21,iD<|Aa A),(22,iD i),(23,bD<|decide ((i:Int)<↑(Aa A))),(41,Ba 5)]) [fB1 ((q4_ A)) ((q6_ l))<|Ae (vlsD l)<|Aa l,fB1 nl nl nl,fB1 (Ah 3 0 (Aa c) (Aa c) Ab) nl nl,intB<|nsD<|Ad (λ(j:Nat)=>Af A j 0) c,intB<|nsD c,An [] 262 0 Ab Ac<|Kd.map []] ?_;have hc0:=zFy c _ rfl;refine zAw (((Bb (j:=2) (i:=1) (rowB []) rfl rfl rfl rfl).trans (Bb (j:=2) (i:=2) (natB []) rfl rfl rfl rfl)).trans<|Weak.osr (s:=7) (k:=4) (off:=0) (n:=c.length) (m:=c.length) (wh:=Ab) (cs:=nsD c) (by kernel_rfl) (show Aj (Ae (((nsD c).drop 0).take c.length) c.length,[4])=_ by rw[AY,hc0])) ?_;refine zB<|vAs<|ve (True/\0<2)<|zF ?_;obtain⟨z,hz⟩:∃z:Nat,z=0:=⟨0,rfl⟩;have hcl:∀j∈c,j<A.length:=λj h=>by
  rw[ec]at h;simpa using(A7.1 h).1
 generalize hL:(l.map λp=>(zP p.1 c,p.2))=L;have hLl:L.length=l.length:=by rw[<-hL];simp
 have hLs:(L.map (·.2)).sum=(l.map (·.2)).sum:=by rw[<-hL];simp[Function.comp_def]
 have hLg:∀i,i<l.length->L.getD i Ak=(zP ((l.map (·.1)).getD i []) c,(l.map (·.2)).getD i 0):=λi hi=>by
  rw[<-hL];simp[Au,hi]
 have hbnd:∀i,∀x∈(sumT (· +·) [] (L.take i)).map (·.2),x<=(l.map (·.2)).sum:=λi x hx=>by
  have h1:x<=((L.take i).map (·.2)).sum:=by
   have:=zJq hx
   rw[zN7]at this;simpa using this
  have h2:((L.take i).map (·.2)).sum<=(L.map (·.2)).sum:=by rw[List.map_take];exact sum_le _ _
  omega
 refine zAo (λ(i:Nat)(K:List Rw)(W:List Nat)=>fr 108 [(0,cntD),(4,Ai 0 0),(6,Ai 1 0),(7,D.osr 4 0 (Aa c) (Aa c) Ab<|nsD c),(8,Ai 2 0),(11,Ba 5),(43,(q6_ l)),(44,iD<|Aa l),(45,iD i)]) (λ(i:Nat)(K:List Rw)(W:List Nat)=>[fB1 (.row (nsD A) A.length) (.row (rwsD l) l.length)<|.row (vlsD l) l.length,fB1 nl nl nl,fB1 (.osl 3 0 c.length c.length Ab) (.osl 6 0 W.length W.length Ab)<|.osl 7 0 W.length W.length Ab,intB<|nsD (c.map λj=>A.getD j 0),⟨nsD c,3,1,Ab,Ab,.plain⟩,mapI K,rowB<|K.map rowV,natB<|W.map natD]) (λi K W=>l.length-i) (λ(i:Nat)(K:List Rw)(W:List Nat)=>i<=l.length/\K=(sumT (· +·) []<|L.take i).map (·.1)/\W=(sumT (· +·) []<|L.take i).map (·.2)) 0 [] [] ?_ ?_ ?_
 ·exact⟨by omega,by simp[sumT],by simp[sumT]⟩
 ·refine vk 8
 rintro i K W ⟨g1,g2,g3⟩;have hKW:W.length=K.length:=by rw[g2,g3];simp
 have hKl:K.length<=1000000:=by
  have:=zKx (· +·) (L.take i) ([]:List (Rw×Nat))
  rw[g2,AG];simp only[BS,B_]at this;omega
 rcases AF i l.length with h4|h4
 ·have hne:rwsD l≠[]:=zX (h:=by simp;omega);have hne2:vlsD l≠[]:=zX (h:=by simp;omega);have hrow:(l.map (·.1)).getD i []∈l.map (·.1):=by
   rw[Au,AC (by simpa using h4)];exact AZ _
  obtain⟨p,hp,he⟩:=AD.1 hrow;have hlen2:=hl p hp;have hvs:=hv p hp;rw[he]at hlen2 hvs;have hsu:=zLg (· +·) L i (by omega);rw[hLg i h4]at hsu;have hk1:=congrArg (Ad (·.1)) hsu;have hw1:=congrArg (Ad (·.2)) hsu;simp only[zEn,<-g2]at hk1;simp only[zJe,<-g2,<-g3]at hw1;have hb1:=hbnd (i+1);have hx1:=zY (l.map (·.1)) i (by simpa using h4);have hx2:=zD9 (l.map (·.2)) i (by simpa using h4);generalize (l.map (·.1)).getD i []=row at*;generalize (l.map (·.2)).getD i 0=w at*;have hk:=zJw row c _ _ rfl rfl (by rw[hlen2];exact hcl) hvs;have hpj:=zGq row c _ _ rfl rfl (by omega) (by omega) (by rw[hlen2];exact hcl);have hlk:=zZf K (zP row c);by_cases hm:zP row c∈K
  ·rw[if_pos hm]at hk1 hw1 hlk;have hid:=BN.2 hm;generalize K.idxOf (zP row c)=d at*;rw[hw1]at hb1;have hs1:Sm (W.getD d 0+w):=hs.le (hb1 _ (List.mem_set (by omega) _));have hs2:=hs1.le (Nat.le_add_right _ w);have hs3:=hs1.le (Nat.le_add_left w _);focus
    refine vAu (zB (vT ((i:Int)<↑(Aa l)) (vKB (vA (vr 2 (ix ↑i ↑(Aa l) (rwsD l≠[])) (vp 48 i (rwsD l) (vr 1 (0<Aa (Ag i (rwsD l))) (vsh 49 hx1 (veT (vA (vrT 2 (vc hk (veT (vA (vwh 3 [] [] (zS (AO (AP AQ "string" 1 16 Ab 8 8 (Aj (Aw (AR #[]))) Ab #[])) (Aw (bs (idR (zP row c))))=Ab/\Bi (Ad kyv K) (zS (AO (AP AQ "string" 1 16 Ab 8 8 (Aj (Aw (AR #[]))) Ab #[])))=Ab) ?_ ?_)))))))))))))));rotate_left;refine vsh 56 hlk (ve (0<2/\1<2) (zB (vAe (vf (vK (vd [0,2,3,4,6,9,11,14,15,16,1,5,7,8,10,12,13,17,18,19] (vr 13 (True/\True/\True/\0<1/\0<1/\(0:Int)<=(d:Int)/\(d:Int)<↑(Aa W)) (vo 93 7 d (vr 1 (0<Aa (Ag d (Az (natB (Ad natD W))))) (vs 94 (AJ (Ag d (Az (natB (Ad natD W)))) Uk) (natD (Af W d 0)) (hd:=by simp(disch:=omega) only[zD9]) (vr 2 (0<1/\ix ↑i ↑(Aa l) (vlsD l≠[])) (vp 98 i (vlsD l) (vr 1 (0<Aa (Ag i (vlsD l))) (vsh 99 hx2 (vc (cadd_c _ _ hs2 hs3) (vr 1 ((0:Int)<=(d:Int)/\(d:Int)<↑(Aa W)) (vo 104 7 d (vr 1 (A_ (natB (Ad natD W))=Ac/\Ab=Ab/\1=1/\d+1<=Aa (Az (natB (Ad natD W)))/\¬7∈[]) (vnil (zD (vN (zA rfl (vr 2 (i6 (↑i+1)) (vnil (zC ?_)))))))))))))))))))))))));rotate_left
   ·exact⟨rfl,zBt _⟩
   refine⟨i+1,K,W.set d (W.getD d 0+w),⟨by omega,hk1.symm,hw1.symm⟩,by omega,?_⟩;rw[show(W.set d (W.getD d 0+w)).map natD=(W.map natD).set d (natD (W.getD d 0+w)) by simp,show(W.set d (W.getD d 0+w)).length=W.length by simp];refine vk 8
  rw[if_neg hm]at hk1 hw1 hlk;have hs1:Sm w:=hs.le (hb1 _ (by rw[hw1];simp));have hmp:=zY9 K (zP row c) hm;rw[<-hKW]at hmp;have hzw:z+w=w:=by omega
  have hca:=cadd_c z w (hs1.le (by omega)) hs1;rw[hzw]at hca;have hla:∀d:D,((W.map natD++[d]).drop W.length).headD .unk=d:=λd=>by rw[Cx (by simp)];rfl
  have hse:∀d e:D,(W.map natD++[d]).set W.length e=W.map natD++[e]:=λd e=>by
   rw[List.set_append];simp
  focus
   refine vAu (zB (vT ((i:Int)<↑(Aa l)) (vKB (vA (vr 2 (ix ↑i ↑(Aa l) (rwsD l≠[])) (vp 48 i (rwsD l) (vr 1 (0<Aa (Ag i (rwsD l))) (vsh 49 hx1 (veT (vA (vrT 2 (vc hk (veT (vA (vwh 3 [] [] (zS (AO (AP AQ "string" 1 16 Ab 8 8 (Aj (Aw (AR #[]))) Ab #[])) (Aw (bs (idR (zP row c))))=Ab/\Bi (Ad kyv K) (zS (AO (AP AQ "string" 1 16 Ab 8 8 (Aj (Aw (AR #[]))) Ab #[])))=Ab) ?_ ?_)))))))))))))));rotate_left;refine vsh 56 hlk (ve (0<2/\1<2) (zB (vAe (vt (vA (ve (True/\0<2) (vA (vwh 4 [] [] (A_ (mapI K)=Ac/\zS (AO (AP AQ "string" 1 16 Ab 8 8 (Aj (Aw (AR #[]))) Ab #[])) (Aw (bs (idR (zP row c))))=Ab/\Bi (Ad kyv K) (zS (AO (AP AQ "string" 1 16 Ab 8 8 (Aj (Aw (AR #[]))) Ab #[])))=Ab/\¬5∈[]) ?_ ?_))))))));rotate_left;refine vb 5 (mput (mapI K) (Ad kyv K) (Aw (bs (idR (zP row c)))) (iD (Aa W))) (mapI (K++[zP row c])) (hd:=by simp(disch:=omega) only[hmp]) (veT (vA (vrT 2 (vc hpj (ve (0<2/\1<2) (vA (vr 7 (True/\0<2/\((1=1/\1<=1/\True)/\0<1/\1=1/\1<=16777216/\1<=9223372036854775807)/\(AV (rowB (Ad rowV K))=Ab/\Aa (Az (rowB (Ad rowV K)))=Aa W*1/\Aa W=Aa W*1/\AM (rowB (Ad rowV K))=110/\AN (rowB (Ad rowV K))=1/\1=1/\0<1/\0<24/\110=110/\(Aa W+1)*24<=140737488355328/\1=1/\AK (Ax (rowB (Ad rowV K)))=Ac/\(Ac=Ac\/AL (Ax (rowB (Ad rowV K)))=Ab))/\True/\Ac=Ac/\Ab=Ab/\1=1/\2<=3) (vb 2 (An [Ah 3 0 (Aa c) (Aa c) Ab,Ah 6 0 (Aa W+1) ((Aa W+1)*1) Ab,Ah 7 0 (Aa W) (Aa W) Ab] 90 0 Ac Ac Ao) (An [Ah 3 0 (Aa c) (Aa c) Ab,Ah 6 0 (Aa W+1) (Aa W+1) Ab,Ah 7 0 (Aa W) (Aa W) Ab] 90 0 Ac Ac Ao) (hd:=by simp(disch:=omega) only[AW]) ?_))))))));refine veT (vd [0,2,1,3,4,5,6,7] (vr 3 (True/\0<1) (vc (zTr z hz) (vr 4 (((1=1/\1<=1/\True)/\0<1/\1=1/\1<=16777216/\1<=9223372036854775807)/\(Ab=Ab/\Aa (Ad natD W)=Aa W*1/\Aa W=Aa W*1/\50=50/\1=1/\1=1/\0<1/\0<24/\50=50/\(Aa W+1)*24<=140737488355328/\1=1/\AK Ao=Ac/\(Ac=Ac\/AL Ao=Ab))/\True/\Ac=Ac/\Ab=Ab/\1=1/\3<=3) (vb 2 (An [Ah 3 0 (Aa c) (Aa c) Ab,Ah 6 0 (Aa W+1) (Aa W+1) Ab,Ah 7 0 (Aa W+1) ((Aa W+1)*1) Ab] 90 0 Ac Ac Ao) (An [Ah 3 0 (Aa c) (Aa c) Ab,Ah 6 0 (Aa W+1) (Aa W+1) Ab,Ah 7 0 (Aa W+1) (Aa W+1) Ab] 90 0 Ac Ac Ao) (hd:=by simp(disch:=omega) only[AW]) (veT (vd [0,2,3,4,6,9,11,14,15,16,1,5,7,8,10,12,13,17,18,19] (vr 13 (True/\True/\True/\0<1/\0<1/\(0:Int)<=(Aa W:Int)/\(Aa W:Int)<(↑(Aa W+1):Int)) (vo 93 7 (Aa W) (vr 1 (0<Aa (Ag (Aa W) (Ad natD W++[natD z]))) (vs 94 (AJ (Ag (Aa W) (Ad natD W++[natD z])) Uk) (natD z) (hd:=by simp(disch:=omega) only[hla]) (vr 2 (0<1/\ix ↑i ↑(Aa l) (vlsD l≠[])) (vp 98 i (vlsD l) (vr 1 (0<Aa (Ag i (vlsD l))) (vsh 99 hx2 (vc hca (vr 1 ((0:Int)<=(Aa W:Int)/\(Aa W:Int)<(↑(Aa W+1):Int)) (vo 104 7 (Aa W) (vr 1 (Ac=Ac/\Ab=Ab/\1=1/\Aa W+1<=Aa (Ad natD W++[natD z])/\¬7∈[]) (vnil (zD (vN (zA rfl (vr 2 (i6 (↑i+1)) (vnil (zC ?_))))))))))))))))))))))))));rotate_left
  ·exact⟨rfl,zBt _⟩
  ·exact⟨rfl,rfl,zBt _,by simp⟩
  refine⟨i+1,K++[zP row c],W++[w],⟨by omega,hk1.symm,hw1.symm⟩,by omega,?_⟩;refine wkn (fr 108 [(0,cntD),(4,Ai 0 0),(6,Ai 1 0),(7,D.osr 4 0 (Aa c) (Aa c) Ab (nsD c)),(8,Ai 2 0),(11,Ba 5),(12,iD ↑i),(15,iD ↑(Aa W)),(43,(q6_ l)),(44,iD ↑(Aa l)),(45,iD ↑(i+1)),(86,Ai 2 2),(87,Ah 7 0 (Aa W+1) (Aa W+1) Ab),(88,iD ↑(Aa W)),(89,Bl 29 (Ar [])),(90,Ai 2 2),(91,Ah 7 0 (Aa W+1) (Aa W+1) Ab),(92,iD ↑(Aa W)),(93,Ai 7 (Aa W)),(94,natD z),(95,Ai 0 2),(96,Ae (vlsD l) (Aa l)),(97,iD ↑i),(98,D.ptr (Ag i (vlsD l))),(99,natD w),(100,AS (Fn.method "Add") [Bl 29 (Ar [])] []),(101,AS (Fn.method "Add") [Bl 29 (Ar [])] []),(102,Bl 29 (Ar [])),(103,natD w),(104,Ai 7 (Aa W)),(105,iD ↑(i+1))]) [An [(q4_ A),(q6_ l),Ae (vlsD l) (Aa l)] (90:TypeId) 0 Ac Ac Ao,An [nl,nl,nl] (90:TypeId) 0 Ac Ac Ao,An [Ah 3 0 (Aa c) (Aa c) Ab,Ah 6 0 (Aa W+1) (Aa W+1) Ab,Ah 7 0 (Aa W+1) (Aa W+1) Ab] 90 0 Ac Ac Ao,An (nsD (Ad (λ(j:Nat)=>Af A j 0) c)) (3:TypeId) 1 Ab Ac Ao,An (nsD c) (3:TypeId) 1 Ab Ab Ao,An (nsD (Av (Aa (K++[zP row c])))) (262:TypeId) 0 Ab Ac (Kd.map (Ad kyv (K++[zP row c]))),An (Ad rowV K++[Ae (zN (zP row c)) (Aa c)]) (110:TypeId) 1 Ab Ac Ao,An (Ca (Ad natD W++[natD z]) (Aa W) (natD w)) 50 1 Ab Ac Ao,An [Ae (zN (zP row c)) (Aa c)] 110 1 Ab Ac Ao,An [natD z] 50 1 Ab Ac Ao] ?_;rw[hse];have hpl:(zP row c).length=c.length:=by simp[zP]
  rw[show(K++[zP row c]).map rowV=K.map rowV++[.row (zN (zP row c)) c.length] by rw[<-hpl];simp,show(W++[w]).map natD=W.map natD++[natD w] by simp,show(W++[w]).length=W.length+1 by simp];refine vk 8
 have hn:Ndk (sumT (· +·) [] L):=zGm _ L [] (by simp[Ndk]);rw[AA (by omega)]at g2 g3;have hso:=zVk (c.map λj=>A.getD j 0) (sumT (· +·) [] L) (by rw[<-AG (f:=λp:Rw×Nat=>p.1),<-g2];exact hKl) (λp hp=>by
  have:=(zKy _ L [] p hp).resolve_left (by simp)
  obtain⟨q,hq,e⟩:=AD.1 this;rw[<-hL]at hq;obtain⟨q',_,rfl⟩:=AD.1 hq;rw[<-e];simp only[zP,AG];omega) hn
 have hT:(sumT (· +·) [] L).length=W.length:=by rw[g3,AG]
 have ht1:=zFy (c.map λj=>A.getD j 0) c.length (by simp);have ht2:(K.map rowV).take W.length=K.map rowV:=AA (by simp[hKW]);have ht3:(W.map natD).take W.length=W.map natD:=AA (by simp);simp only[fcD,rwsD,vlsD,<-g2,<-g3,hT]at hso;rw[AG]at hso;refine vAu<|zB<|vF ((i:Int)<↑(Aa l))<|vZ2<|vA<|vr 1 (3<=3)<|vcl [Ar [Ae (Am (Aa c)<|Ag 0<|Az<|intB<|nsD<|Ad (λ(j:Nat)=>Af A j 0) c)<|Aa c,Ae (Am (Aa W)<|Ag 0<|Az<|rowB<|Ad rowV K)<|Aa W,Ae (Am (Aa W)<|Ag 0<|Az<|natB<|Ad natD W)<|Aa W]] [Ar [Ae (nsD<|Ad (λ(j:Nat)=>Af A j 0) c)<|Aa c,Ae (Ad rowV K)<|Aa W,Ae (Ad natD W)<|Aa W]] (LeL.of_eq (by simp(disch:=omega) only[AY,ht2,ht1,ht3])) (by exact hso)<|ve (Ac=Ac/\Ab=Ab/\3=3/\3<=3)<|zK<|vre (3<=3) (Ar [Ae (nsD<|Ad (λ(j:Nat)=>Af A j 0) c)<|Aa c,Ae (Ad rowV<|Ad (λ(x:Rw×Nat)=>AE x)<|srtL<|sumT (λ(x1 x2:Nat)=>x1+x2) [] L)<|Aa<|srtL<|sumT (λ(x1 x2:Nat)=>x1+x2) [] L,Ae (Ad natD<|Ad (λ(x:Rw×Nat)=>A0 x)<|srtL<|sumT (λ(x1 x2:Nat)=>x1+x2) [] L)<|Aa<|srtL<|sumT (λ(x1 x2:Nat)=>x1+x2) [] L]) (.inr rfl) (by simp)
theorem fl_set{α:Type}{g:α->List D}{c:Nat}(hg:∀a,(g a).length=c)(l:List α)(i:Nat)(a:α)(h:i<l.length):setAt (l.flatMap g) (i*c) (g a)=(l.set i a).flatMap g:=by
 have e1:l=l.take i++l[i]::l.drop (i+1):=by rw[<-CG h,List.take_append_drop]
 have e2:l.set i a=l.take i++a::l.drop (i+1):=by rw[List.set_eq_take_append_cons_drop,if_pos h]
 have e3:(l.flatMap g)=(l.take i).flatMap g++g l[i]++(l.drop (i+1)).flatMap g:=by
  conv=>lhs;rw[e1]
  rw[Cb,BO,BI]
 have e4:((l.take i).flatMap g).length=i*c:=by rw[zCc hg,B_,Nat.min_eq_left (by omega)]
 have h5:=zJm (g a) (g l[i]) ((l.take i).flatMap g) ((l.drop (i+1)).flatMap g) (by rw[hg,hg]);rw[e4,<-e3]at h5;rw[h5,e2,Cb,BO,BI]
theorem fl_snd{α:Type}{g:α->List D}{c:Nat}(hg:∀a,(g a).length=c)(l:List α)(z w:α):setAt (l.flatMap g++g z) (l.length*c) (g w)=(l++[w]).flatMap g:=by
 have h:=fl_set hg (l++[z]) l.length w (by simp);rw[Cb,List.flatMap_singleton,List.set_append_right _ _ (A2 _),Nat.sub_self]at h;exact h
def ckD(x:Option Nat):List D:=[bD x.isNone,natD (x.getD 0)]
theorem zM3:ckD Aq=[bD Ab, .row [] 0]:=by
 show[bD Ab,natD 0]=_;rw[zRk]
theorem zF0(n:Nat):ckD (Aj n)=[bD Ac,natD n]:=rfl
theorem zAv(x:Option Nat):(ckD x).length=2:=rfl
def cpD(p:Nat×Option Nat):List D:=natD p.1::ckD p.2
theorem zAt(p:Nat×Option Nat):(cpD p).length=3:=rfl
def okC(x:Option Nat):Prop:=Sm (x.getD 0)
def okP(p:Nat×Option Nat):Prop:=Sm p.1/\okC p.2
theorem dgX(e:Nat):∀(k n:Nat),n<4294967296^k->(dg n).length<=k
 |0,n,h=>by
  obtain rfl:n=0:=by rw[Nat.pow_zero]at h;omega
  rw[dg];simp
 | k+1,n,h=>by
  rw[dg];split
  ·simp
  rw[Bq]
  have:=dgX e k (n/4294967296) (by rw[Nat.pow_succ]at h;exact Nat.div_lt_of_lt_mul (by rw[Nat.mul_comm];exact h))
  omega
theorem dgY{n e k:Nat}(h:n<=2^e)(he:e<32*k):(dg n).length<=k:=by
 refine dgX e k n ?_;rw[show 4294967296^k=2^(32*k) by rw[Nat.pow_mul]];exact Cu h (Nat.pow_lt_pow_right (by omega) he)
theorem smB{n:Nat}(h:n<=Bz):Sm n:=dgY (e:=Ez) (k:=1000) h (by rw[Ez_eq];omega)
theorem sm30{n:Nat}(h:n<=30000):Sm n:=Sm.of (by omega)
theorem kz_ok{f:Fa (Option Nat)}(h:kz f<=Bz):∀p∈f.l,okC p.2:=λp hp=>sm30 (kz_bd h p hp)
theorem qz_ok{f:Fa (Nat×Option Nat)}(h:qz f<=Bz):∀p∈f.l,okP p.2:=λp hp=>⟨smB (Nat.le_of_lt ((qz_bd h).1 p hp)),sm30 ((qz_bd h).2 p hp)⟩
theorem zYy(a b:Option Nat)(ha:okC a)(hb:okC b):okC (omin a b):=by
 cases a with
 |none=>cases b<;>exact hb
 |some x=>
  cases b with
  |none=>exact ha
  |some y=>exact Sm.le (n:=x) ha (Nat.min_le_left x y)
theorem sum_okK{f:Fa (Option Nat)}(h:kz f<=Bz)(φ:Rw->Rw)(i:Nat):∀x∈(sumT Sk.add [] ((f.l.map λp=>(φ p.1,p.2)).take i)).map (·.2),okC x:=λx hx=>by
 obtain⟨p,hp,rfl⟩:=AD.1 hx;refine zSh zYy _ _ (λq hq=>?_) (λq hq=>by cases hq) p hp;obtain⟨q',hq',rfl⟩:=AD.1 (BR hq);exact kz_ok h q' hq'
theorem sum_okP{f:Fa (Nat×Option Nat)}(h:qz f<=Bz)(φ:Rw->Rw)(i:Nat):∀x∈(sumT Sp.add [] ((f.l.map λp=>(φ p.1,p.2)).take i)).map (·.2),okP x:=λx hx=>by
 obtain⟨p,hp,rfl⟩:=AD.1 hx;have h1:=zG3 (f.mp AE);have h2:=zG6 (f.mp A0);have hA:vz (f.mp AE)<=Bz:=AX (Nat.le_mul_of_pos_right _ h2) h;have hB:kz (f.mp A0)<=Bz:=AX (Nat.le_mul_of_pos_left _ h1) h;have e1:=zSg (g:=AE) hm1.add ((f.l.map λp=>(φ p.1,p.2)).take i) [];have e2:=zSg (g:=A0) hm2.add ((f.l.map λp=>(φ p.1,p.2)).take i) [];constructor
 ·have hm:(p.1,p.2.1)∈mpL AE (sumT Sp.add [] ((f.l.map λp=>(φ p.1,p.2)).take i)):=AD.2 ⟨p,hp,rfl⟩;rw[e1]at hm;have h4:=zN7 (mpL AE ((f.l.map λp=>(φ p.1,p.2)).take i)) (mpL AE ([]:List (Rw×(Nat×Option Nat))));have e5:(mpL AE ((f.l.map λp=>(φ p.1,p.2)).take i)).map (·.2)=(((f.mp AE).l.map (·.2)).take i):=by
   show Ad _ (Ad _ (Am i (Ad _ f.l)))=Am i (Ad _ (Ad _ f.l));rw[A4,List.map_take,A4,A4];rfl
  have h5:=sum_le ((f.mp AE).l.map (·.2)) i;have h3:p.2.1<=((sumT (· +·) (mpL AE ([]:List (Rw×(Nat×Option Nat)))) (mpL AE ((f.l.map λp=>(φ p.1,p.2)).take i))).map (·.2)).sum:=zJq (AD.2 ⟨_,hm,rfl⟩);rw[h4,e5]at h3;have e6:((mpL AE ([]:List (Rw×(Nat×Option Nat)))).map (·.2)).sum=0:=rfl;rw[e6]at h3;unfold vz at hA;exact smB (by omega)
 have hm:(p.1,p.2.2)∈mpL A0 (sumT Sp.add [] ((f.l.map λp=>(φ p.1,p.2)).take i)):=AD.2 ⟨p,hp,rfl⟩;rw[e2]at hm;refine zSh zYy _ _ (λq hq=>?_) (λq hq=>by cases hq) _ hm;obtain⟨q',hq',rfl⟩:=AD.1 hq;obtain⟨q2,hq2,rfl⟩:=AD.1 (BR hq');exact kz_ok hB (q2.1,q2.2.2) (AD.2 ⟨q2,hq2,rfl⟩)
theorem zadK(w:Option Nat):Sk.add Aq w=w:=by cases w<;>rfl
theorem zadP(w:Nat×Option Nat):Sp.add (0,Aq) w=w:=by
 obtain⟨a,b⟩:=w;show(0+a,Sk.add Aq b)=_;rw[zadK,BH]
theorem zokK:okC none:=sm30 (by decide)
theorem zokP:okP (0,Aq):=⟨sm30 (by decide),zokK⟩
abbrev trpD:D:= .ifc 30 (.agg [])
abbrev prdD:D:= .ifc 36 (.agg [cntD,trpD])
theorem zSf:Pure Al 234 [.agg []] [] (.agg (ckD Aq)):=by
 rw[zM3];refine zH zBf mixed Tryz.func234 rfl<|zB<|zA rfl<|v0s<|veT<|zB<|zA rfl<|ve (((1=1/\1<=2/\True)/\Ab=Ab)/\Ac=Ac/\Ab=Ab/\2=2/\2<=2)<|zK<|vret (2<=2)<|.inr rfl
theorem tone_c:Pure Al 233 [.agg []] [] (.agg (ckD (Aj 0))):=by
 rw[zF0];refine zH zBf mixed Tryz.func233 rfl<|zB<|zA rfl<|v0s<|veT<|zB<|zA rfl<|ve ((True/\Ab=Ab)/\Ac=Ac/\Ab=Ab/\2=2/\2<=2)<|zK<|vret (2<=2)<|.inr rfl
theorem zX6(x:Option Nat)(h:okC x):Pure Al 235 [.agg (ckD x)] [] (.agg (ckD x)):=by
 rcases x with _|n
 ·rw[zM3];refine zH zBf mixed Tryz.func235 rfl<|zB<|zA rfl<|v0s<|veT<|zB<|zB<|zA rfl<|ve (True/\0<2)<|vt<|zB<|zA rfl<|ve (((1=1/\1<=2/\True)/\Ab=Ab)/\Ac=Ac/\Ab=Ab/\2=2/\2<=2)<|zK<|zG<|vret (2<=2)<|.inr rfl
 have hn:=nnorm_c n h;rw[zF0];refine zH zBf mixed Tryz.func235 rfl<|zB<|zA rfl<|v0s<|veT<|zB<|zB<|zA rfl<|ve (True/\0<2)<|vf<|zJ<|zC<|zE<|zB<|zA rfl<|vr 2 (True/\0<1)<|vc (hn)<|ve (((1=1/\2<=2/\True)/\Ab=Ab)/\Ac=Ac/\Ab=Ab/\2=2/\2<=2)<|zK<|vret (2<=2)<|.inr rfl
theorem zX8(a b:Option Nat)(ha:okC a)(hb:okC b):Pure Al 231 [.agg [], .agg (ckD a), .agg (ckD b)] [] (.agg (ckD (omin a b))):=by
 have na:=zX6 a ha;have nb:=zX6 b hb;rcases a with _|x
 ·rcases b with _|y
  ·rw[show omin Aq Aq=Aq from rfl];rw[zM3]at na⊢;refine zH zBf mixed Cc rfl<|zB<|zA rfl<|v0s<|veT<|zB<|zB<|zA rfl<|ve (True/\0<2)<|vt<|zB<|zA rfl<|vr 1 (2<=2)<|vc (na)<|ve (Ac=Ac/\Ab=Ab/\2=2/\2<=2)<|zK<|zG<|vret (2<=2)<|.inr rfl
  rw[show omin Aq (Aj y)=Aj y from rfl];rw[zF0]at nb;rw[zM3,zF0];refine zH zBf mixed Cc rfl<|zB<|zA rfl<|v0s<|veT<|zB<|zB<|zA rfl<|ve (True/\0<2/\True/\0<2)<|vf<|zJ<|zC<|zE<|zB<|zA rfl<|vr 1 (2<=2)<|vc (nb)<|ve (Ac=Ac/\Ab=Ab/\2=2/\2<=2)<|zK<|vret (2<=2)<|.inr rfl
 rcases b with _|y
 ·rw[show omin (Aj x) Aq=Aj x from rfl];rw[zF0]at na;rw[zM3,zF0];refine zH zBf mixed Cc rfl<|zB<|zA rfl<|v0s<|veT<|zB<|zB<|zA rfl<|ve (True/\0<2)<|vt<|zB<|zA rfl<|vr 1 (2<=2)<|vc (na)<|ve (Ac=Ac/\Ab=Ab/\2=2/\2<=2)<|zK<|zG<|vret (2<=2)<|.inr rfl
 rw[zF0]at na nb;have hc:=zRj x y ha hb;have hv:=zCj x y;generalize cmpD (x:Int) (y:Int)=z at*;by_cases hxy:x<=y
 ·rw[show omin (Aj x) (Aj y)=Aj x from congrArg Aj (Nat.min_eq_left hxy),zF0,zF0];refine zH zBf mixed Cc rfl<|zB<|zA rfl<|v0s<|veT<|zB<|zB<|zA rfl<|vr 11 (True/\0<2/\True/\0<2/\True/\0<1/\True/\0<1)<|vc (hc)<|veT<|vT (z<=(0:Int))<|zB<|zA rfl<|vr 1 (2<=2)<|vc (na)<|ve (Ac=Ac/\Ab=Ab/\2=2/\2<=2)<|zK<|zG<|vret (2<=2)<|.inr rfl
 rw[show omin (Aj x) (Aj y)=Aj y from congrArg Aj (Nat.min_eq_right (by omega)),zF0,zF0];refine zH zBf mixed Cc rfl<|zB<|zA rfl<|v0s<|veT<|zB<|zB<|zA rfl<|vr 11 (True/\0<2/\True/\0<2/\True/\0<1/\True/\0<1)<|vc (hc)<|veT<|vF (z<=(0:Int))<|zJ<|zC<|zE<|zB<|zA rfl<|vr 1 (2<=2)<|vc (nb)<|ve (Ac=Ac/\Ab=Ab/\2=2/\2<=2)<|zK<|vret (2<=2)<|.inr rfl
theorem zX7(a b:Option Nat)(ha:okC a)(hb:okC b):Pure Al 232 [.agg [], .agg (ckD a), .agg (ckD b)] [] (.agg (ckD (zJo a b))):=by
 rcases a with _|x
 ·rw[show zJo Aq b=Aq from rfl,zM3];obtain⟨i,n,e⟩:∃i n,ckD b=[bD i,natD n]:=⟨_,_,rfl⟩;rw[e];refine zH zBf mixed Tryz.func232 rfl<|zB<|zA rfl<|v0s<|veT<|zB<|zB<|zA rfl<|ve (True/\0<2)<|vt<|zB<|zA rfl<|ve (((1=1/\1<=2/\True)/\Ab=Ab)/\Ac=Ac/\Ab=Ab/\2=2/\2<=2)<|zK<|zG<|vret (2<=2)<|.inr rfl
 rcases b with _|y
 ·rw[show zJo (Aj x) Aq=Aq from rfl,zM3,zF0];refine zH zBf mixed Tryz.func232 rfl<|zB<|zA rfl<|v0s<|veT<|zB<|zB<|zA rfl<|ve (True/\0<2/\True/\0<2)<|vt<|zB<|zA rfl<|ve (((1=1/\1<=2/\True)/\Ab=Ab)/\Ac=Ac/\Ab=Ab/\2=2/\2<=2)<|zK<|zG<|vret (2<=2)<|.inr rfl
 have h:=nadd_c x y ha hb;rw[show zJo (Aj x) (Aj y)=Aj (x+y)from rfl,zF0,zF0,zF0];refine zH zBf mixed Tryz.func232 rfl<|zB<|zA rfl<|v0s<|veT<|zB<|zB<|zA rfl<|ve (True/\0<2/\True/\0<2)<|vf<|zJ<|zC<|zE<|zB<|zA rfl<|vr 4 (True/\0<1/\True/\0<1)<|vc (h)<|ve (((1=1/\2<=2/\True)/\Ab=Ab)/\Ac=Ac/\Ab=Ab/\2=2/\2<=2)<|zK<|vret (2<=2)<|.inr rfl
theorem tadd_c(a b:Option Nat)(ha:okC a)(hb:okC b):Pure Al 231 [.agg [], .agg (ckD a), .agg (ckD b)] [] (.agg (ckD (Sk.add a b))):=zX8 a b ha hb
theorem tmul_c(a b:Option Nat)(ha:okC a)(hb:okC b):Pure Al 232 [.agg [], .agg (ckD a), .agg (ckD b)] [] (.agg (ckD (Sk.mul a b))):=zX7 a b ha hb
theorem tequal_c(a:Option Nat)(ha:okC a):Pure Al 15 [.agg [], .agg (ckD a), .agg (ckD a)] [] (bD Ab):=by
 rcases a with _|x
 ·rw[zM3];refine zH zBf mixed Tryz.func15 rfl<|zB<|zA rfl<|v0s<|veT<|zB<|zA rfl<|ve (True/\0<2/\True/\0<2/\True/\True/\0<2)<|zK<|vret (True)<|.inr rfl
 have hc:=zRj x x ha ha;have e0:cmpD (x:Int) (x:Int)=0:=by rcases zCj (x:Int) x with h|h|h<;>omega
 rw[e0]at hc;rw[zF0];refine zH zBf mixed Tryz.func15 rfl<|zB<|zA rfl<|v0s<|veT<|zB<|zA rfl<|vr 13 (True/\0<2/\True/\0<2/\True/\True/\0<2/\True/\0<1/\True/\0<1)<|vc (hc)<|veT<|zK<|vret (True)<|.inr rfl
abbrev prdA:List D:=[cntD,trpD]
theorem zYm:Pure Al 241 [.agg prdA] [] (.agg (cpD (0,Aq))):=by
 have hk:=zSf;rw[zM3]at hk;show Pure _ _ _ _ (.agg (natD 0::ckD Aq));rw[zM3];suffices h:∀z:Nat,z=0->Pure Al 241 [.agg prdA] [] (.agg [natD z,bD Ab, .row [] 0])from h 0 rfl
 intro z hz;refine zH (T:=Tc) (zGl _ _ _) mixed Tryz.func241 rfl<|zB<|zA rfl<|v0s<|veT<|zB<|vd [0,3,1,2,4,5,6,7]<|vr 3 (True/\True/\0<2)<|vc (zTr z hz)<|vr 1 (0<1)<|vc (hk)<|ve (((1=1/\1<=3/\2=2/\3<=3/\True)/\Ab=Ab)/\Ac=Ac/\Ab=Ab/\3=3/\3<=3)<|zK<|vret (3<=3)<|.inr rfl
theorem pone_c:Pure Al 240 [.agg prdA] [] (.agg (cpD (1,Aj 0))):=by
 have hk:=tone_c;rw[zF0]at hk;show Pure _ _ _ _ (.agg (natD 1::ckD (Aj 0)));rw[zF0];generalize (0:Nat)=zz at hk⊢;obtain⟨o,ho⟩:∃o:Nat,o=1:=⟨1,rfl⟩;rw[<-ho];refine zH (T:=Tc) (zGl _ _ _) mixed Tryz.func240 rfl<|zB<|zA rfl<|v0s<|veT<|zB<|vd [0,3,1,2,4,5,6,7]<|vr 3 (True/\True/\0<2)<|vc (cone_c o ho)<|vr 1 (0<1)<|vc (hk)<|ve (((1=1/\1<=3/\2=2/\3<=3/\True)/\Ab=Ab)/\Ac=Ac/\Ab=Ab/\3=3/\3<=3)<|zK<|vret (3<=3)<|.inr rfl
theorem ck2(x:Option Nat):∃a b,ckD x=[bD a,natD b]:=⟨_,_,rfl⟩
theorem padd_c(a b:Nat×Option Nat)(ha:okP a)(hb:okP b):Pure Al 238 [.agg prdA, .agg (cpD a), .agg (cpD b)] [] (.agg (cpD (Sp.add a b))):=by
 obtain⟨a1,a2⟩:=a;obtain⟨b1,b2⟩:=b;have h1:=cadd_c a1 b1 ha.1 hb.1;have h2:=zX8 a2 b2 ha.2 hb.2;show Pure _ _ [.agg prdA, .agg (natD a1::ckD a2), .agg (natD b1::ckD b2)] [] (.agg (natD (a1+b1)::ckD (omin a2 b2)));generalize a1+b1=s at*;generalize omin a2 b2=t at*;obtain⟨x1,x2,ex⟩:=ck2 a2;obtain⟨y1,y2,ey⟩:=ck2 b2;obtain⟨z1,z2,ez⟩:=ck2 t;rw[ex,ey,ez]at h2;rw[ex,ey,ez];refine zH (T:=Tc) (zGl _ _ _) mixed Tryz.func238 rfl<|zB<|zA rfl<|v0s<|veT<|zB<|vd [0,2,4,7,9,11,1,3,5,6,8,10,12,13,14,15]<|vr 9 (True/\True/\True/\True/\True/\True/\0<2/\0<3/\0<3)<|vc (h1)<|vr 3 (0<1/\2<=2/\2<=2)<|vc (h2)<|ve (((1=1/\1<=3/\2=2/\3<=3/\True)/\Ab=Ab)/\Ac=Ac/\Ab=Ab/\3=3/\3<=3)<|zK<|vret (3<=3)<|.inr rfl
theorem pmul_c(a b:Nat×Option Nat)(ha:okP a)(hb:okP b):Pure Al 239 [.agg prdA, .agg (cpD a), .agg (cpD b)] [] (.agg (cpD (Sp.mul a b))):=by
 obtain⟨a1,a2⟩:=a;obtain⟨b1,b2⟩:=b;have h1:=cmul_c a1 b1 ha.1 hb.1;have h2:=zX7 a2 b2 ha.2 hb.2;show Pure _ _ [.agg prdA, .agg (natD a1::ckD a2), .agg (natD b1::ckD b2)] [] (.agg (natD (a1*b1)::ckD (zJo a2 b2)));generalize a1*b1=s at*;generalize zJo a2 b2=t at*;obtain⟨x1,x2,ex⟩:=ck2 a2;obtain⟨y1,y2,ey⟩:=ck2 b2;obtain⟨z1,z2,ez⟩:=ck2 t;rw[ex,ey,ez]at h2;rw[ex,ey,ez];refine zH (T:=Tc) (zGl _ _ _) mixed Tryz.func239 rfl<|zB<|zA rfl<|v0s<|veT<|zB<|vd [0,2,4,7,9,11,1,3,5,6,8,10,12,13,14,15]<|vr 9 (True/\True/\True/\True/\True/\True/\0<2/\0<3/\0<3)<|vc (h1)<|vr 3 (0<1/\2<=2/\2<=2)<|vc (h2)<|ve (((1=1/\1<=3/\2=2/\3<=3/\True)/\Ab=Ab)/\Ac=Ac/\Ab=Ab/\3=3/\3<=3)<|zK<|vret (3<=3)<|.inr rfl
end
section
open Go.RowKit
theorem zEf{U:List Nat}(h:Asc U):mem32 (msk U)=U:=by
 refine Asc.ext ⟨(List.pairwise_lt_range (n:=32)).filter _,λv hv=>?_⟩ h λv=>?_
 ·have:=(A7.1 hv).1;simpa using this
 simp only[mem32,A7,zB2,decide_eq_true_eq,Cy];exact⟨λh=>h.2,λhv=>⟨h.2 v hv,hv⟩⟩
theorem zBc{A:List Nat}(h:Asc A):A.length<=32:=by
 rw[<-zEf h];exact AX (A9 _ _) (by simp)
theorem zWr{A:List Nat}(h:Asc A)(p:Nat->Bool):Asc (A.filter p):=⟨h.1.filter _,λv hv=>h.2 v (A7.1 hv).1⟩
theorem zK6(p:Nat->Bool)(A:List Nat):(zAu p A).map (λj=>A.getD j 0)=A.filter p:=by
 have e:A=(Av A.length).map (λj=>A.getD j 0):=by
  apply B1 (by simp);intro i h1 h2;simp[Au,h1]
 conv=>rhs;rw[e]
 rw[BP];rfl
theorem zDf{p:Nat->Bool}{A:List Nat}{j:Nat}:j∈zAu p A↔j<A.length/\p (A.getD j 0)=true:=by simp[zAu]
theorem zD7(p:Nat->Bool)(A:List Nat):(zAu p A).length<=A.length:=AX (A9 _ _) (by simp)
theorem zCu{A:List Nat}(hA:A.Nodup)(p:Nat->Bool)(x:List Va):zP x (zAu p A)=(A.filter p).map (asg A x):=by
 rw[<-zK6,A4];refine BC λj hj=>?_;have h:=(zDf.1 hj).1;simp only[Function.comp,asg];rw[Au (l:=A),AC h];simp only[BW];rw[List.Nodup.idxOf_getElem hA j h]
theorem zPz{A B:List Nat}(hA:Asc A)(hB:Asc B){p q:Nat->Bool}(h:∀v,(v∈A/\p v=Ab)↔(v∈B/\q v=Ab)):A.filter p=B.filter q:=
 Asc.ext (zWr hA p) (zWr hB q) λv=>by simpa[A7]using h v
theorem zGi(A B:List Nat)(v:Nat):(msk A&&&msk B).testBit v=(decide (v∈A)&&decide (v∈B)):=by rw[Nat.testBit_and,zB2,zB2]
theorem zZm{A B:List Nat}(hA:Asc A)(hB:Asc B)(x y:List Va):zP y (zAu (λv=>(msk A&&&msk B).testBit v) B)=zP x (zAu (λv=>(msk A&&&msk B).testBit v) A)↔mt A x B y=true:=by
 rw[zCu hA.nd,zCu hB.nd,zPz hB hA (p:=λv=>(msk A&&&msk B).testBit v) (q:=λv=>(msk A&&&msk B).testBit v) (λv=>by rw[zGi];simp only[A6,decide_eq_true_eq];constructor<;>(rintro⟨h1,h2,h3⟩;exact⟨by assumption,h2,h3⟩))];rw[zDy];simp only[mt,Bc,A7,zGi,A6,decide_eq_true_eq];constructor
 ·intro h v hv hb;exact(h v ⟨hv,hv,hb⟩).symm
 rintro h v ⟨hv,_,hb⟩;exact(h v hv hb).symm
def posL(L:List Rw)(r:Rw):List Nat:=(Av L.length).filter λk=>decide (L.getD k []=r)
theorem zPm{α:Type}[Inhabited α](l:List α)(key:α->Rw)(r:Rw)(hd:∀k,k<l.length->(l.map key).getD k []=key (l.getD k Ak)):(posL (l.map key) r).map (λk=>l.getD k Ak)=l.filter λq=>decide (key q=r):=by
 have e:l=(Av l.length).map (λj=>l.getD j Ak):=by
  apply B1 (by simp);intro i h1 h2;simp[Au,h1]
 conv=>rhs;rw[e]
 rw[BP];congr 1;unfold posL;rw[AG];refine Bv λk hk=>?_;have hk:k<l.length:=by simpa using hk
 simp only[Function.comp,hd k hk]
theorem pos_succ(L:List Rw)(i:Nat)(h:i<L.length)(r:Rw):posL (L.take (i+1)) r=posL (L.take i) r++if L.getD i []=r then[i]else[]:=by
 unfold posL;have e1:(L.take (i+1)).length=i+1:=by simp;omega
 have e2:(L.take i).length=i:=by simp;omega
 rw[e1,e2,List.range_succ,B7];congr 1
 ·refine Bv λk hk=>?_;have hk:k<i:=by simpa using hk
  rw[Au,Au,BD,BD,if_pos (by omega),if_pos hk]
 have:(L.take (i+1)).getD i []=L.getD i []:=by rw[Au,Au,BD,if_pos (by omega)]
 simp only[Cz,CA,this,decide_eq_true_eq]
theorem zYt{L:List Rw}{r:Rw}{k:Nat}(h:k∈posL L r):k<L.length:=by
 have:=(A7.1 h).1;simpa using this
theorem zHz{L:List Rw}{r:Rw}(h:r∉L):posL L r=[]:=by
 unfold posL;rw[List.filter_eq_nil_iff];intro k hk e;have hk:k<L.length:=by simpa using hk
 have e:L.getD k []=r:=by simpa using e
 exact h (by rw[<-e,Au,AC hk];exact AZ hk)
abbrev Fn:Type:=List Nat×List (Rw×Nat)
def fltF(U:List Nat)(o:Fn):List Nat×List (List Va):=(zAu (λv=>(msk o.1&&&msk U).testBit v) U,allK ((o.2.map (·.1)).map λr=>zP r (zAu (λv=>(msk o.1&&&msk U).testBit v) o.1)))
def faN(o:Fn):Fa Nat:=⟨o.1,o.2⟩
theorem flt_ok{U:List Nat}(hU:Asc U){o:Fn}(ho:Asc o.1)(s:List Va):decide (zP s (fltF U o).1∈(fltF U o).2)=okO U s (faN o):=by
 rw[BA];simp only[fltF,decide_eq_true_eq,zFu,AD,A4,okO,List.any_eq_true,Bc,faN,Function.comp];have e:U.filter (λv=>(msk o.1&&&msk U).testBit v)=o.1.filter (λv=>(msk o.1&&&msk U).testBit v):=zPz hU ho λv=>by
  rw[zGi];simp only[A6,decide_eq_true_eq];constructor
  ·rintro⟨h1,h2,h3⟩;exact⟨h2,h2,h3⟩
  rintro⟨h1,h2,h3⟩;exact⟨h3,h2,h3⟩
 have key:∀q:Rw×Nat,zP q.1 (zAu (λv=>(msk o.1&&&msk U).testBit v) o.1)=zP s (zAu (λv=>(msk o.1&&&msk U).testBit v) U)↔∀v∈o.1,v∈U->asg o.1 q.1 v=asg U s v:=by
  intro q;rw[zCu ho.nd,zCu hU.nd,e,zDy];simp only[A7,zGi,A6,decide_eq_true_eq];constructor
  ·intro h v hv hu;exact h v ⟨hv,hv,hu⟩
  rintro h v ⟨hv,_,hu⟩;exact h v hv hu
 constructor
 ·rintro⟨q,hq,h⟩;exact⟨q,hq,λv hv=>decide_eq_true ((key q).1 h v hv)⟩
 rintro⟨q,hq,h⟩;exact⟨q,hq,(key q).2 λv hv=>of_decide_eq_true (h v hv)⟩
theorem allK_nd(L:List Rw):(allK L).Nodup:=by
 have key:∀(L K:List Rw),K.Nodup->(L.foldl addK K).Nodup:=by
  intro L;induction L with
  |nil=>exact λK h=>h
  | cons a L ih=>
   intro K h;refine ih _ ?_;unfold addK;split
   ·exact h
   rename_i hn;rw[List.nodup_append];refine⟨h,by simp,λx hx y hy=>?_⟩;simp only[B3]at hy;subst hy;exact λe=>hn (e▸hx)
 exact key L [] CB
theorem zR9(L:List Rw)(r:Rw):allK (L++[r])=addK (allK L) r:=by simp[allK]
theorem zFj(L:List Rw)(r s:Rw):posL (L++[r]) s=posL L s++if r=s then[L.length]else[]:=by
 have h:=pos_succ (L++[r]) L.length (by simp) s;rw[AA (by simp),CJ (A2 _),BF]at h;rw[h];simp[Au]
mutual
/-- does the data name blocks below m alone? -/
def rwG(m:Nat):D->Bool
 | .own j _=>decide (j<m)
 | .osl j _ _ _ _=>decide (j<m)
 | .osr j _ _ _ _ _=>decide (j<m)
 | .mref j=>decide (j<m)
 | .agg cs=>rBL m cs
 | .tup cs=>rBL m cs
 | .clo _ x y=>rBL m x&&rBL m y
 | .ifc _ d=>rwG m d
 |_=>Ab
def rBL(m:Nat):List D->Bool
 |[]=>Ab
 |d::ds=>rwG m d&&rBL m ds
end
mutual
theorem zSt{m k:Nat}(hk:m<=k):∀d:D,rwG m d=Ab->refs k d=Ac
 | .own j o,h=>by simp only[rwG,decide_eq_true_eq]at h;simp only[refs,beq_eq_false_iff_ne];omega
 | .osl j _ _ _ _,h=>by simp only[rwG,decide_eq_true_eq]at h;simp only[refs,beq_eq_false_iff_ne];omega
 | .osr j _ _ _ _ _,h=>by simp only[rwG,decide_eq_true_eq]at h;simp only[refs,beq_eq_false_iff_ne];omega
 | .mref j,h=>by simp only[rwG,decide_eq_true_eq]at h;simp only[refs,beq_eq_false_iff_ne];omega
 | .agg cs,h=>by simp only[rwG]at h;simp only[refs];exact zFi hk cs h
 | .tup cs,h=>by simp only[rwG]at h;simp only[refs];exact zFi hk cs h
 | .clo _ x y,h=>by
  simp only[rwG,A6]at h;simp only[refs,zFi hk x h.1,zFi hk y h.2,Bool.or_false]
 | .ifc _ d,h=>by simp only[rwG]at h;simp only[refs];exact zSt hk d h
 | .unk,_| .val _,_| .row _ _,_| .ptr _,_| .mfz _ _,_| .fx _,_=>by simp only[refs]
theorem zFi{m k:Nat}(hk:m<=k):∀ds:List D,rBL m ds=Ab->zC4 k ds=Ac
 |[],_=>by simp only[zC4]
 |d::ds,h=>by
  simp only[rBL,A6]at h;simp only[zC4,zSt hk d h.1,zFi hk ds h.2,Bool.or_false]
end
theorem zK3{k:Nat}{d:D}(h:refs k d=Ac):zBy k d=d:=by unfold zBy;rw[h];rfl
theorem zPt{m k:Nat}(hk:m<=k):∀{ds:List D},rBL m ds=Ab->ds.map (zBy k)=ds
 |[],_=>rfl
 |d::ds,h=>by
  simp only[rBL,A6]at h;rw[Bf,zK3 (zSt hk d h.1),zPt hk h.2]
def bBL(m:Nat)(bs:List Bk):Bool:=bs.all λe=>e.nob||rBL m e.cells
def zCx(L:List Rw):List Nat->List Rw->List D
 |n::ns,r::K=> .osl n 0 (posL L r).length (posL L r).length Ab::zCx L ns K
 |_,_=>[]
abbrev gArr(it:TypeId)(L:List Rw)(r:Rw):Bk:=⟨nsD (posL L r),it,1,Ab,Ac, .plain⟩
structure Grp(m:Nat)(mt it:TypeId)(L:List Rw)(base st:List Bk)(ns:List Nat):Prop where
 pre:st.take m=base
 mp:st[m]?=Aj ⟨zCx L ns (allK L),mt,0,Ac,Ac, .map ((allK L).map kyv)⟩
 len:ns.length=(allK L).length
 nd:ns.Nodup
 at_:∀(j k:Nat)(r:Rw),ns[j]?=Aj k->(allK L)[j]?=Aj r->m<k/\st[k]?=Aj (gArr it L r)
theorem zEb{L:List Rw}:∀{ns:List Nat}{K:List Rw}(j:Nat),(zCx L ns K)[j]?=match ns[j]?,K[j]? with
  |some n,Aj r=>Aj (.osl n 0 (posL L r).length (posL L r).length Ab)
  |_,_=>Aq
 |[],K,j=>by simp[zCx]
 |n::ns,[],j=>by
  simp only[zCx,List.getElem?_nil];split<;>simp_all
 |n::ns,r::K,0=>by simp[zCx]
 |n::ns,r::K,j+1=>by simp only[zCx,List.getElem?_cons_succ];exact zEb j
theorem zEa{L:List Rw}:∀{ns:List Nat}{K:List Rw},ns.length=K.length->(zCx L ns K).length=K.length
 |[],[],_=>rfl
 |n::ns,r::K,h=>by simp only[zCx,Bq];rw[zEa (by simpa using h)]
section
variable {P : Program} {T : Par} {ops : Array Oper} {dr : Bool} {l : List Oper} {sl : List D} {st base : List Bk} {K : List D → List Bk → Prop} {m : Nat} {mt it : TypeId} {L : List Rw} {ns : List Nat}
theorem Grp.lt(h:Grp m mt it L base st ns):m<st.length:=(Bj.1 h.mp).1
theorem Grp.more(h:Grp m mt it L base st ns)(hb:bBL m base=Ab){r:Rw}(hr:r∈allK L){k:Nat}(hk:ns[(allK L).idxOf r]?=Aj k)(tmp:Bk)(ht:tmp.nob=Ab){b' e':Bk}(hb':b'=gArr it (L++[r]) r)
  (he':e'=⟨((zCx L ns (allK L)).map (zBy k)).set ((allK L).idxOf r) (.osl k 0 (posL (L++[r]) r).length (posL (L++[r]) r).length Ab),mt,0,Ac,Ac, .map ((allK L).map kyv)⟩):
  Grp m mt it (L++[r]) base ((((st++[tmp]).map (zCw k)).set k b').set m e') ns:=by
 subst hb' he';have hj:=BN.2 hr;have hrr:(allK L)[(allK L).idxOf r]?=Aj r:=by rw[AC hj];simp
 obtain⟨hmk,hkst⟩:=h.at_ _ k r hk hrr;have hall:allK (L++[r])=allK L:=by rw[zR9,addK,if_pos hr]
 have hml:=h.lt;have hkl:k<st.length:=(Bj.1 hkst).1;have hget:∀i,i<st.length->i≠m->i≠k->((((st++[tmp]).map (zCw k)).set k (gArr it (L++[r]) r)).set m ⟨((zCx L ns (allK L)).map (zBy k)).set ((allK L).idxOf r) (.osl k 0 (posL (L++[r]) r).length (posL (L++[r]) r).length Ab),mt,0,Ac,Ac, .map ((allK L).map kyv)⟩)[i]?=(st[i]?).map (zCw k):=λi hi h1 h2=>by
  rw[BJ (Ne.symm h1),BJ (Ne.symm h2),Cd,Bt hi]
 refine⟨?_,?_,by rw[hall];exact h.len,h.nd,λj n s hn hs=>?_⟩
 ·apply Cl;intro i;rw[BD];split
  ·rename_i hi;rw[hget i (by omega) (by omega) (by omega)];have:base[i]?=st[i]?:=by rw[<-h.pre,BD,if_pos hi]
   rw[this];cases e:st[i]? with
   |none=>rfl
   | some x=>
    simp only[BX,Cf.injEq];have hx:x∈base:=BT (this.trans e)
    have:=Bc.1 hb x hx
    simp only[BK]at this;unfold zCw;split
    ·rfl
    rename_i hn;rw[zPt (m:=m) (by omega) (this.resolve_left hn)]
  rename_i hi;rw[<-h.pre,BD,if_neg hi]
 ·rw [CC (by simp;omega),hall];congr 2;apply Cl;intro i;rw[zEb,List.getElem?_set,Cd,zEb];have hcl:((zCx L ns (allK L)).map (zBy k)).length=(allK L).length:=by rw[AG,zEa h.len]
  by_cases hi:(allK L).idxOf r=i
  ·subst hi;rw[if_pos rfl,if_pos (by rw[hcl];exact hj),hk,hrr]
  rw [if_neg hi];cases e1:ns[i]? with
  |none=>rfl
  | some n=>
   cases e2:(allK L)[i]? with
   |none=>rfl
   | some s=>
    have hne:n≠k:=λe=>by
     subst e;have h1:=(Bj.1 e1);have h2:=(Bj.1 hk);exact hi ((List.getElem_inj h.nd).1 (h2.2.trans h1.2.symm))
    have hsr:r≠s:=λe=>by
     subst e;obtain⟨h1,h2⟩:=Bj.1 e2;exact hi (by rw[<-h2];exact(allK_nd L).idxOf_getElem i h1)
    simp only[BX];rw[zK3 (by simp only[refs,beq_eq_false_iff_ne];exact hne),zFj,if_neg hsr,Bs]
 rw[hall]at hs;obtain⟨h1,h2⟩:=h.at_ j n s hn hs;refine⟨h1,?_⟩;by_cases hnk:n=k
 ·subst hnk;have:s=r:=by
   obtain⟨g1,g2⟩:=Bj.1 hn;obtain⟨g3,g4⟩:=Bj.1 hk;have e:j=(allK L).idxOf r:=(List.getElem_inj h.nd).1 (g2.trans g4.symm);subst e;rw[hrr]at hs;cases hs;rfl
  subst this;rw[BJ (by omega),CC (by simp;omega)]
 have hnl:n<st.length:=(Bj.1 h2).1;rw[hget n hnl (by omega) hnk,h2];have hsr:r≠s:=λe=>by
  subst e;obtain⟨g1,g2⟩:=Bj.1 hs;have e:(allK L).idxOf r=j:=by rw[<-g2];exact(allK_nd L).idxOf_getElem j g1
  rw[e,hn]at hk;cases hk;exact hnk rfl
 simp only[BX,Cf.injEq];unfold zCw gArr;rw[zFj,if_neg hsr,Bs];rfl
theorem Grp.new(h:Grp m mt it L base st ns){r:Rw}(hr:r∉allK L)(tmp:Bk){b' e':Bk}(hb':b'=gArr it (L++[r]) r)
  (he':e'=⟨zCx L ns (allK L)++[.osl (st.length+1) 0 1 1 Ab],mt,0,Ac,Ac, .map ((allK L++[r]).map kyv)⟩):
  Grp m mt it (L++[r]) base ((st++[tmp]++[b']).set m e') (ns++[st.length+1]):=by
 subst hb' he';have hall:allK (L++[r])=allK L++[r]:=by rw[zR9,addK,if_neg hr]
 have hml:=h.lt;have hrL:r∉L:=λhm=>hr ((zFu L r).2 hm);have hns:∀n∈ns,m<n/\n<st.length:=λn hn=>by
  obtain⟨j,hj,rfl⟩:=List.getElem_of_mem hn;obtain⟨h1,h2⟩:=h.at_ j ns[j] _ (AC hj) (AC (by rw[<-h.len];exact hj));exact⟨h1,(Bj.1 h2).1⟩
 have hne:∀s∈allK L,r≠s:=λs hs e=>hr (e▸hs);refine⟨?_,?_,by rw[hall];simp[h.len],?_,λj n s hn hs=>?_⟩
 ·rw[<-h.pre,List.take_set_of_le (A2 _),BI,CJ (by omega)]
 ·rw[CC (by simp;omega),hall];congr 2;apply Cl;intro i;rw[zEb];rcases Nat.lt_trichotomy i ns.length with hi|hi|hi
  ·have hi2:i<(allK L).length:=by rw[<-h.len];exact hi
   rw[Bt (by rw[zEa h.len];exact hi2),zEb,Bt hi,Bt hi2,AC hi,AC hi2];simp only;rw[zFj,if_neg (hne _ (AZ hi2)),Bs]
  ·subst hi;have hp:posL (L++[r]) r=[L.length]:=by rw[zFj,if_pos rfl,zHz hrL];rfl
   rw[BY (by rw[zEa h.len,h.len];exact A2 _),zEa h.len,BY (A2 _),BY (by rw[h.len];exact A2 _),h.len];simp[hp]
  have hle:=h.len;rw[CD (by rw[A8,zEa h.len];simp;omega),CD (l:=ns++_) (by simp;omega)]
 ·rw[List.nodup_append];refine⟨h.nd,by simp,λx hx y hy=>?_⟩;simp only[B3]at hy
  have:=(hns x hx).2
  omega
 rw[hall]at hs;rcases Nat.lt_trichotomy j ns.length with hj|hj|hj
 ·have hj2:j<(allK L).length:=by rw[<-h.len];exact hj
  rw[Bt hj]at hn;rw[Bt hj2]at hs;obtain⟨h1,h2⟩:=h.at_ j n s hn hs;have h3:=(hns n (BT hn)).2;refine⟨h1,?_⟩;rw[BJ (by omega),BI,Bt h3,h2];unfold gArr;rw[zFj,if_neg (hne s (BT hs)),Bs]
 ·subst hj;rw[BY (A2 _)]at hn;rw[BY (by rw[h.len];exact A2 _),h.len]at hs;simp at hn hs;subst hn hs;refine⟨by omega,?_⟩;rw[BJ (by omega),BY (by simp)];simp
 rw[CD (by simp;omega)]at hn;cases hn
end
section
variable (A B : List Nat) (lb : List (Rw × Nat)) (ok : Rw → Bool)
def selB(p:Rw×Nat):List (Rw×Nat):=lb.filter λq=>mt A p.1 B q.1
def prQ(p q:Rw×Nat):Rw×Nat:=(mg A p.1 B q.1,p.2*q.2)
def zF9(p:Rw×Nat)(l:List (Rw×Nat)):List (Rw×Nat):=(l.map (prQ A B p)).filter λs=>ok s.1
theorem zNa(la:List (Rw×Nat)):(zBd (· *·) A la B lb).filter (λp=>ok p.1)=la.flatMap λp=>zF9 A B ok p (selB A B lb p):=by
 unfold zBd zF9 selB prQ;rw[List.filter_flatMap]
variable {A B lb ok}
theorem zXa(p:Rw×Nat)(l:List (Rw×Nat))(t:Nat)(h:t<l.length):zF9 A B ok p (l.take (t+1))=zF9 A B ok p (l.take t)++if ok (mg A p.1 B (l.getD t Ak).1)then[prQ A B p (l.getD t Ak)]else[]:=by
 unfold zF9;rw[Bh h,B4,B7,Au,AC h];congr 1;simp only[Bf,BQ,Cz,CA,BW];rfl
theorem zQ7(p:Rw×Nat)(l:List (Rw×Nat)):(zF9 A B ok p l).length<=l.length:=by
 unfold zF9;exact AX (A9 _ _) (by simp)
theorem zRr(la:List (Rw×Nat)):∀i,((la.take i).flatMap λp=>zF9 A B ok p (selB A B lb p)).length<=i*lb.length:=by
 induction la with
 |nil=>intro i;simp
 | cons p la ih=>
  intro i;cases i with
  |zero=>simp
  |succ i=>
   rw[Cm,BO,A8,B8];have h1:=zQ7 (A:=A) (B:=B) (ok:=ok) p (selB A B lb p);have h2:(selB A B lb p).length<=lb.length:=A9 _ _
   have:=ih i
   omega
theorem zXi(la:List (Rw×Nat))(i:Nat)(h:i<la.length):(la.take (i+1)).flatMap (λp=>zF9 A B ok p (selB A B lb p))=(la.take i).flatMap (λp=>zF9 A B ok p (selB A B lb p))++zF9 A B ok (la.getD i Ak) (selB A B lb (la.getD i Ak)):=by
 rw[Bh h,Cb,Au,AC h];simp
theorem pos_sel(hA:Asc A)(hB:Asc B)(p:Rw×Nat):(posL ((lb.map (·.1)).map λr=>zP r (zAu (λv=>(msk A&&&msk B).testBit v) B)) (zP p.1 (zAu (λv=>(msk A&&&msk B).testBit v) A))).map (λk=>lb.getD k Ak)=selB A B lb p:=by
 have h:=zPm lb (λq=>zP q.1 (zAu (λv=>(msk A&&&msk B).testBit v) B)) (zP p.1 (zAu (λv=>(msk A&&&msk B).testBit v) A)) (λk hk=>by simp[Au,hk]);rw[A4];refine Eq.trans h ?_;unfold selB;refine Bv λq _=>?_;rw[BA,decide_eq_true_eq];exact zZm hA hB p.1 q.1
end
def zM1(L:List Rw):List D:=(allK L).map λr=> .row (nsD (posL L r)) (posL L r).length
theorem zZg(L:List Rw)(r:Rw):zJt Ac nl ((allK L).map kyv) (zM1 L) (kyv r)=if r∈L then .row (nsD (posL L r)) (posL L r).length else nl:=by
 unfold zJt zM1;rw[zD3,zBw];by_cases h:r∈L
 ·have h':=(zFu L r).2 h;have hj:=BN.2 h';rw[if_pos h',if_pos h];simp[ctD,Au,hj]
 have h':r∉allK L:=λk=>h ((zFu L r).1 k);rw[if_neg h',if_neg h];rfl
end
section
open Go.RowKit
set_option maxRecDepth 4096
abbrev FnK:Type:=List Nat×List (Rw×(Option Nat))
def zDo(U:List Nat)(o:FnK):List Nat×List (List Va):=(zAu (λv=>(msk o.1&&&msk U).testBit v) U,allK ((o.2.map (·.1)).map λr=>zP r (zAu (λv=>(msk o.1&&&msk U).testBit v) o.1)))
def faNK(o:FnK):Fa (Option Nat):=⟨o.1,o.2⟩
theorem zZ8{U:List Nat}(hU:Asc U){o:FnK}(ho:Asc o.1)(s:List Va):decide (zP s (zDo U o).1∈(zDo U o).2)=okO U s (faNK o):=by
 rw[BA];simp only[zDo,decide_eq_true_eq,zFu,AD,A4,okO,List.any_eq_true,Bc,faNK,Function.comp];have e:U.filter (λv=>(msk o.1&&&msk U).testBit v)=o.1.filter (λv=>(msk o.1&&&msk U).testBit v):=zPz hU ho λv=>by
  rw[zGi];simp only[A6,decide_eq_true_eq];constructor
  ·rintro⟨h1,h2,h3⟩;exact⟨h2,h2,h3⟩
  rintro⟨h1,h2,h3⟩;exact⟨h3,h2,h3⟩
 have key:∀q:Rw×(Option Nat),zP q.1 (zAu (λv=>(msk o.1&&&msk U).testBit v) o.1)=zP s (zAu (λv=>(msk o.1&&&msk U).testBit v) U)↔∀v∈o.1,v∈U->asg o.1 q.1 v=asg U s v:=by
  intro q;rw[zCu ho.nd,zCu hU.nd,e,zDy];simp only[A7,zGi,A6,decide_eq_true_eq];constructor
  ·intro h v hv hu;exact h v ⟨hv,hv,hu⟩
  rintro h v ⟨hv,_,hu⟩;exact h v hv hu
 constructor
 ·rintro⟨q,hq,h⟩;exact⟨q,hq,λv hv=>decide_eq_true ((key q).1 h v hv)⟩
 rintro⟨q,hq,h⟩;exact⟨q,hq,(key q).2 λv hv=>of_decide_eq_true (h v hv)⟩
section
variable (A B : List Nat) (lb : List (Rw × (Option Nat))) (ok : Rw → Bool)
def zFd(p:Rw×(Option Nat)):List (Rw×(Option Nat)):=lb.filter λq=>mt A p.1 B q.1
def prQK(p q:Rw×(Option Nat)):Rw×(Option Nat):=(mg A p.1 B q.1,Sk.mul p.2 q.2)
def zDm(p:Rw×(Option Nat))(l:List (Rw×(Option Nat))):List (Rw×(Option Nat)):=(l.map (prQK A B p)).filter λs=>ok s.1
theorem zLt(la:List (Rw×(Option Nat))):(zBd Sk.mul A la B lb).filter (λp=>ok p.1)=la.flatMap λp=>zDm A B ok p (zFd A B lb p):=by
 unfold zBd zDm zFd prQK;rw[List.filter_flatMap]
variable {A B lb ok}
theorem zSw(p:Rw×(Option Nat))(l:List (Rw×(Option Nat)))(t:Nat)(h:t<l.length):zDm A B ok p (l.take (t+1))=zDm A B ok p (l.take t)++if ok (mg A p.1 B (l.getD t Ak).1)then[prQK A B p (l.getD t Ak)]else[]:=by
 unfold zDm;rw[Bh h,B4,B7,Au,AC h];congr 1;simp only[Bf,BQ,Cz,CA,BW];rfl
theorem zNc(p:Rw×(Option Nat))(l:List (Rw×(Option Nat))):(zDm A B ok p l).length<=l.length:=by
 unfold zDm;exact AX (A9 _ _) (by simp)
theorem zNo(la:List (Rw×(Option Nat))):∀i,((la.take i).flatMap λp=>zDm A B ok p (zFd A B lb p)).length<=i*lb.length:=by
 induction la with
 |nil=>intro i;simp
 | cons p la ih=>
  intro i;cases i with
  |zero=>simp
  |succ i=>
   rw[Cm,BO,A8,B8];have h1:=zNc (A:=A) (B:=B) (ok:=ok) p (zFd A B lb p);have h2:(zFd A B lb p).length<=lb.length:=A9 _ _
   have:=ih i
   omega
theorem zTg(la:List (Rw×(Option Nat)))(i:Nat)(h:i<la.length):(la.take (i+1)).flatMap (λp=>zDm A B ok p (zFd A B lb p))=(la.take i).flatMap (λp=>zDm A B ok p (zFd A B lb p))++zDm A B ok (la.getD i Ak) (zFd A B lb (la.getD i Ak)):=by
 rw[Bh h,Cb,Au,AC h];simp
theorem pos_selK(hA:Asc A)(hB:Asc B)(p:Rw×(Option Nat)):(posL ((lb.map (·.1)).map λr=>zP r (zAu (λv=>(msk A&&&msk B).testBit v) B)) (zP p.1 (zAu (λv=>(msk A&&&msk B).testBit v) A))).map (λk=>lb.getD k Ak)=zFd A B lb p:=by
 have h:=zPm lb (λq=>zP q.1 (zAu (λv=>(msk A&&&msk B).testBit v) B)) (zP p.1 (zAu (λv=>(msk A&&&msk B).testBit v) A)) (λk hk=>by simp[Au,hk]);rw[A4];refine Eq.trans h ?_;unfold zFd;refine Bv λq _=>?_;rw[BA,decide_eq_true_eq];exact zZm hA hB p.1 q.1
end
end
section
open Go.RowKit
attribute [local irreducible] seqW awp zAe zAh zAb Weak updS zAs retL Pure Acts rP setP setQ cP nP fr
set_option maxRecDepth 4096
set_option maxRecDepth 4096
abbrev fB1K(a b c:D):Bk:=⟨[a,b,c],48,0,Ac,Ac, .plain⟩
set_option maxHeartbeats 1000000 in
theorem zJz(A:List Nat)(n:Nat)(hn:A.length=n)(hl:n<=1000)(hA:∀v∈A,v<32)(x y:List D)(k j:Nat):Pure Al 106 [.agg [.row (nsD A) n, .row x k, .row y j]] [] (u32D (msk A)):=by
 subst hn;have hlt:∀i,msk (A.take i)<4294967296:=λi=>zA3 λv hv=>hA v (BR hv);refine zH zBf mixed Tryz.func106 rfl<|zB<|zA rfl<|v0s<|veT<|zB<|zA rfl<|veT<|zB<|zB<|zA rfl<|ve (True/\0<3)<|zF<|zQ (λ(i:Nat)=>fr 19 [(2,Ay<|AI AB (0:Int)),(3,u32D<|msk<|Am i A),(7,Ae (nsD A)<|Aa A),(8,iD (Aa A:Int)),(9,iD (i:Int))]) (λi=>[fB1K (.row (nsD A) A.length) (.row x k)<|.row y j]) (λi=>A.length-i) (λi=>i<=A.length) 0 ?_ ?_ ?_
 ·omega
 ·refine vk 1
 rintro i h1;have hi:=hlt i;rcases AF i A.length with h2|h2
 ·have h3:=hA _ (zBv A i h2);have h4:=zK0 h3;have h5:=zH1 hi h4;refine zB<|zA rfl<|v0s<|veT<|zB<|vT ((i:Int)<(Aa A:Int))<|zJ<|zC<|zE<|zB<|zF<|zB<|zA rfl<|vr 1 (ix (i:Int) (Aa A:Int) (nsD A≠[])) ?_ ⟨(by omega),⟨(by omega),(by exact zX)⟩⟩;refine vp 11 (i) (nsD A)<|vr 1 (0<Aa (Ag i<|nsD A))<|vs 12 (AJ (Ag i<|nsD A) Uk) (iD (↑(Af A i 0):Int)) (hd:=by simp(disch:=omega) only[zAi])<|veT<|zA rfl<|vr 3 ((0:Int)<=(↑(Af A i 0):Int))<|vs 15 (Ay<|AI AB<|A1 AB ((1:Int)*(2:Int)^min (A5 (↑(Af A i 0):Int)) 32)) (dig ((2:Nat)^Af A i 0)) (hd:=by simp(disch:=omega) only[Br,zDu])<|vrT 1<|vs 16 (Ay<|AI AB<|A1 AB (↑(AH (Ap 32 (↑(msk<|Am i A):Int)|||Ap 32 (↑((2:Nat)^Af A i 0):Int))):Int)) (dig (msk (Am i A)|||(2:Nat)^Af A i 0)) (hd:=by simp(disch:=omega) only[zKu,zA1])<|vrT 1<|vnil<|zD<|zC<|zE<|zA rfl<|vr 2 (i6 ((i:Int)+(1:Int)))<|vnil<|zC<|⟨i+1,by omega,by omega,?_⟩;rw[zPs A i h2];refine vk 1
 refine zB<|zA rfl<|v0s<|veT<|zB<|vF ((i:Int)<(Aa A:Int))<|zT<|zM<|zM<|zR rfl<|zC<|zE<|zB<|zA rfl<|veT<|zK<|vre (True) (dig<|msk<|Am i A) (.inr rfl) ?_;rw[AA h2]
end
section
open Go.RowKit
attribute [local irreducible] seqW awp zAe zAh zAb Weak updS zAs retL Pure Acts rP setP setQ cP nP fr
set_option maxRecDepth 4096
theorem less_cK(rows:List (List Va))(n:Nat)(x y:D)(hn:rows.length=n)(i j:Nat)(hi:i<n)(hj:j<n)(hl:∀r∈rows,r.length<=1000000):Pure Al 148 [iD i,iD j, .ptr [x, .row (rows.map rowV) n,y]] [] (iD (zAf rows i j)):=by
 subst hn;have g:∀i,i<rows.length->(rows.getD i []).length<=1000000:=λi hi=>by
  rw[Au,AC hi];exact hl _ (AZ hi)
 have g1:=g i hi;have g2:=g j hj;refine zH zHn mixed Tryz.func148 rfl<|zB<|zA rfl<|v0s<|veT<|zB<|vd [0,2,5,7,1,3,4,6,8,9,10,11]<|vr 6 (True/\True/\0<2/\ix (i:Int) (Aa rows:Int) (Ad rowV rows≠[])) (vp 9 (i) (Ad rowV rows)<|vr 1 (0<Aa (Ag i<|Ad rowV rows))<|vs 10 (AJ (Ag i<|Ad rowV rows) Uk) (rowV<|Af rows i []) (hd:=by simp(disch:=omega) only[zY])<|vr 2 (0<2/\ix (j:Int) (Aa rows:Int) (Ad rowV rows≠[])) (vp 14 (j) (Ad rowV rows)<|vr 1 (0<Aa (Ag j<|Ad rowV rows))<|vs 15 (AJ (Ag j<|Ad rowV rows) Uk) (rowV<|Af rows j []) (hd:=by simp(disch:=omega) only[zY]) ?_) ⟨(by omega),⟨(by omega),⟨(by omega),(by exact zX)⟩⟩⟩) ⟨trivial,trivial,(by omega),⟨(by omega),⟨(by omega),(by exact zX)⟩⟩⟩;refine vca [Ae (zN<|Af rows i [])<|Aa<|Af rows i [],Ae (zN<|Af rows j [])<|Aa<|Af rows j []] (by exact zD8 _ _ _ _ rfl rfl (by omega) (by omega))<|veT<|zK<|vret (True)<|.inr rfl
theorem zS8(b0 b1 b2:Bk)(c:List D):Acts Al 178 [.osl 2 0 0 0 Ab, .val (.int .i64 0), .val (.int .i64 0), .clo (.func 148) [] [.own 0 0]] [b0,b1,b2] [] (.tup []) [b0,b1,b2]:=by
 refine zA8 zHn mixed Tryz.func178 rfl (zKs rfl)<|zB<|zA rfl<|v0s<|ve (i6 ((0:Int)+(1:Int)))<|zF<|zQ (λ(i:Nat)=>fr 53 [(0,Ah 2 0 0 0 Ab),(1,iD 0),(2,iD 0),(3,AS (Fn.func (148:FuncId)) [] [Ai 0 0]),(8,iD 1)]) (λ(i:Nat)=>[b0,b1,b2]) (λ(i:Nat)=>0) (λ(i:Nat)=>True) 0 ?_ ?_ ?_
 ·trivial
 ·refine vk 3 ?_;exact zNk
 rintro i-
 refine zB<|zB<|zA rfl<|v0s<|veT<|vf<|zT<|zM<|zM<|zR rfl<|zBh (True) [] (.inl rfl) ?_;exact⟨by kernel_rfl,by kernel_rfl⟩
theorem pdq0K(b0 b1 b2:Bk)(c:List D)(lim:Int):Acts Al 164 [.osl 2 0 0 0 Ab, .val (.int .i64 0), .val (.int .i64 0), .val (.int .i64 lim), .clo (.func 148) [] [.own 0 0]] [b0,b1,b2] [] (.tup []) [b0,b1,b2]:=by
 refine zA8 zHn mixed Tryz.func164 rfl (zKs rfl)<|zB<|zA rfl<|v0s<|veT<|zB<|zA rfl<|veT<|zF<|zQ (λ(i:Nat)=>fr 148 [(0,Ah 2 0 0 0 Ab),(1,iD 0),(2,iD 0),(3,iD lim),(4,AS (Fn.func (148:FuncId)) [] [Ai 0 0]),(10,bD Ab),(11,bD Ab)]) (λ(i:Nat)=>[b0,b1,b2]) (λ(i:Nat)=>0) (λ(i:Nat)=>True) 0 ?_ ?_ ?_
 ·trivial
 ·refine vk 3 ?_;exact zNk
 rintro i-
 refine zF<|zB<|zA rfl<|v0s<|ve (i6 ((0:Int)-(0:Int)))<|zB<|zB<|zA rfl<|veT<|vt<|zB<|zA rfl<|vrT 4<|vnt [b0,b1,b2]<|zEw [] [] [Ah 2 0 0 0 Ab,iD 0,iD 0,AS (Fn.func 148) [] [Ai 0 0]] [Ah 2 0 0 0 Ab,iD 0,iD 0,AS (Fn.func 148) [] [Ai 0 0]] (By _) (by exact zS8 _ _ _ []) ?_;refine v0s<|veT<|zK<|zG<|zL<|zG<|zL ?_;refine zBh (True) [] (.inr rfl) ?_;exact⟨by kernel_rfl,by kernel_rfl⟩
set_option maxHeartbeats 1000000 in
theorem zSk(A:List D)(a:Nat)(ys:List D)(m:Nat)(rows:List (List Va))(n:Nat)(b1:Bk)(hn:rows.length=n)(hb:n<=1000000)(hl:∀r∈rows,r.length<=1000000)(hd:rows.Nodup):Acts Al 143 [.osl 2 0 n n Ab, .clo (.func 148) [] [.own 0 0]] [fB1K (.row A a) (.row (rows.map rowV) n) (.row ys m),b1,intB (nsD (Av n))] [] (.tup []) [⟨[.row A a, .row (rows.map rowV) n, .row ys m],48,0,Ac,if n=0 then Ac else Ab, .plain⟩,b1,intB (nsD (zBp (zAf rows) (Av n)))]:=by
 have hlim:Bx n<4611686018427387904:=Cu (Lib.bitLen_le n 62 (by omega) (by omega)) (by omega);rcases Cj n with h0|hpos
 ·subst h0;refine zA8 zHn mixed Ck rfl (zKs rfl)<|zB<|zA rfl<|v0s<|veT<|zA rfl<|vr 4 (u6 (↑(0:Nat):Int))<|vc (zN0 0 (by omega))<|vrT 1<|vnt [fB1K (Ae A a) (Ae (Ad rowV rows) 0)<|Ae ys m,b1,intB<|nsD<|Av 0]<|zEw [] [] [Ah 2 0 0 0 Ab,iD 0,iD (↑(0:Nat):Int),iD (↑(0:Nat):Int),AS (Fn.func 148) [] [Ai 0 0]] [Ah 2 0 0 0 Ab,iD 0,iD (↑(0:Nat):Int),iD (↑(0:Nat):Int),AS (Fn.func 148) [] [Ai 0 0]] (By _) (by exact pdq0K _ _ _ [] _) ?_;refine vnil<|zBh (True) [] (.inl rfl) ?_;exact⟨rfl,by simp[zBp]⟩
 have ho:=zPf hd;rw[hn]at ho;have hp:=zPo (st:=[fB1K (.row A a) (.row (rows.map rowV) n) (.row ys m),b1,intB (nsD (Av n))]) (k:=2) (lim:=Bx n) (wh:=Ab) (cf:=zAf rows) (g:=148) (caps:=[.own 0 0]) (caps':=[.ptr [.row A a, .row (rows.map rowV) n, .row ys m]]) (ks:=[0]) rfl rfl rfl rfl rfl (by simp) hb hpos hlim rfl (by decide) (enters_of Tryz.func148 (by kernel_rfl) rfl) ho
  (λx hx y hy=>less_cK rows n _ _ hn x y (by simpa using hx) (by simpa using hy) hl)
 refine zA8 zHn mixed Ck rfl (zKs rfl)<|zB<|zA rfl<|v0s<|veT<|zA rfl<|vr 4 (u6 (n:Int))<|vc (zN0 n (by omega))<|vrT 1<|vnt [fB1K (Ae A a) (Ae (Ad rowV rows) n)<|Ae ys m,b1,intB<|nsD<|Av n]<|zEw [] [] [Ah 2 0 n n Ab,iD 0,iD (n:Int),iD (↑(Bx n):Int),AS (Fn.func 148) [] [Ai 0 0]] [Ah 2 0 n n Ab,iD 0,iD (n:Int),iD (↑(Bx n):Int),AS (Fn.func 148) [] [Ai 0 0]] (By _) (by exact hp) ?_;refine vnil<|zBh (True) [] (.inl rfl) ?_;refine⟨rfl,?_⟩;first|(rw[if_neg (by omega)];done)|(rw[if_neg (by omega)];rfl)
abbrev zGc(l:List D):Bk:=⟨l,54,2,Ab,Ac, .plain⟩
set_option maxHeartbeats 2000000 in
theorem sortedWK(A:List Nat)(a:Nat)(rows:List (List Va))(vals:List (Option Nat))(n:Nat)(hn:rows.length=n)(hm:vals.length=n)(hb:n<=1000000)(hl:∀r∈rows,r.length<=1000000)(hd:rows.Nodup):
  Pure Al 110 [.agg [.row (nsD A) a, .row (rows.map rowV) n, .row (vals.flatMap ckD) n]] [] (.agg [.row (nsD A) a, .row (((zBp (zAf rows) (Av n)).map λi=>rows.getD i []).map rowV) n, .row (((zBp (zAf rows) (Av n)).map λi=>vals.getD i Ak).flatMap ckD) n]):=by
 have hs:=zSk (nsD A) a (vals.flatMap ckD) n rows n (fB1K nl nl nl) hn hb hl hd;refine zH zQg mixed Tryz.func110 rfl<|zB<|zA rfl<|v0s<|veT<|zB<|zA rfl<|vr 5 (True/\0<2/\(0:Int)<=(n:Int)/\(n:Int)<=(n:Int)/\(↑(8:Nat):Int)*(n:Int)<=(281474976710656:Int)/\(n:Int)<=(281474976710656:Int)/\0<1/\1=1)<|vs 3 (Ah 2 0 (A5 (n:Int)) (A5 (n:Int)*1) Ab) (Ah 2 0 n n Ab) (hd:=by simp(disch:=omega) only[Br,AW])<|veT<|zB<|zB<|zA rfl<|veT<|zF<|zA2 (λ(i:Nat)(c:List Nat)=>fr 56 [(1,Ai 0 0),(2,Ai 1 0),(3,Ah 2 0 n n Ab),(13,iD (n:Int)),(14,iD (i:Int))]) (λ(i:Nat)(c:List Nat)=>[fB1K (.row (nsD A) a) (.row (rows.map rowV) n)<|.row (vals.flatMap ckD) n,fB1K nl nl nl,intB<|nsD c]) (λi c=>n-i) (λ(i:Nat)(c:List Nat)=>i<=n/\c.length=n/\c.take i=(Av n).take i) 0 (Cv n 0) ?_ ?_ ?_
 ·exact⟨by omega,by simp,by simp⟩
 ·refine wkn (fr 56 [(1,Ai 0 0),(2,Ai 1 0),(3,Ah 2 0 n n Ab),(13,iD (↑n:Int)),(14,iD 0)]) [An [Ae (nsD A) a,Ae (Ad rowV rows) n,Ae (As ckD vals) n] 48 0 Ac Ac Ao,An [nl,nl,nl] 48 0 Ac Ac Ao,An (repL n [iD 0]) 3 1 Ab Ac (kdOf Ac)] (zKw [(1,1),(2,1),(3,1),(13,1),(14,1)] (Ai 0 0=Ai 0 0/\Ai 1 0=Ai 1 0/\Ah 2 0 n n Ab=Ah 2 0 n n Ab/\iD (↑n:Int)=iD (↑n:Int)/\iD 0=iD (↑(0:Nat):Int)) 3 [] (by kernel_rfl) ⟨rfl,rfl,rfl,rfl,(by kernel_rfl)⟩ (by kernel_rfl) (λ_ _=>rfl) (by simp[updB,zSp,zGu]))
 rintro i c ⟨h1,h2,h3⟩;rcases AF i n with h4|h4
 ·refine zB<|zA rfl<|v0s<|veT<|zB<|vT ((i:Int)<(n:Int))<|zJ<|zC<|zE<|zB<|zF<|zB<|zA rfl<|veT<|zA rfl<|vr 4 ((0:Int)<=(i:Int)/\(i:Int)<(n:Int))<|vo 20 2 (i)<|vr 1 (A_ (intB<|nsD c)=Ac/\Ab=Ab/\1=1/\i+1<=Aa (Az<|intB<|nsD c)/\¬2∈[])<|vnil<|zD<|zC<|zE<|zA rfl<|vr 2 (i6 ((i:Int)+(1:Int)))<|vnil<|zC<|⟨i+1,c.set i i,⟨by omega,by simpa using h2,?_⟩,by omega,?_⟩
  ·have:=zKz 0 (a:=c) (b:=Av n) (i:=i) (by omega) (by simpa using h4) h3
   rwa[show(Av n).getD i 0=i by simp[Au,h4]]at this
  rw[<-zYh];refine vk 3
 have e:c=Av n:=by
  have e1:i=n:=by omega
  rw[e1,AA (by omega),AA (by simp)]at h3;exact h3
 subst e;refine zB<|zA rfl<|v0s<|veT<|zB<|vF ((i:Int)<(n:Int))<|zT<|zM<|zM<|zR rfl<|zC<|zE<|zB<|zA rfl<|vrT 2<|vnt [fB1K (Ae (nsD A) a) (Ae (Ad rowV rows) n)<|Ae (As ckD vals) n,fB1K nl nl nl,intB<|nsD<|Av n]<|zEw [] [] [Ah 2 0 n n Ab,AS (Fn.func 148) [] [Ai 0 0]] [Ah 2 0 n n Ab,AS (Fn.func 148) [] [Ai 0 0]] (By _) (by exact hs) ?_;refine v0s<|veT<|zB<|zA rfl<|vr 5 (True/\0<3/\((1=1/\1<=3/\True)/\Ab=Ab)/\Ac=Ac/\Ab=Ab/\3=3/\3<=3)<|vnil<|zC<|vnn (fr 56 [(1,Ai 0 0),(2,Ai 1 0),(3,Ah 2 0 n n Ab),(5,Ai 3 0),(25,Ai 0 0),(26,Ae (nsD A) a),(27,Ar [Ae (nsD A) a,nl,nl])]) [An [Ae (nsD A) a,Ae (Ad rowV rows) n,Ae (As ckD vals) n] 48 0 Ac (if n=0 then Ac else Ab) Ao,An [nl,nl,nl] 48 0 Ac Ac Ao,An (nsD<|zBp (zAf rows)<|Av n) 3 1 Ab Ac Ao,An [Ae (nsD A) a,nl,nl] 48 0 Ac Ac Ao]<|zAw ((Bb (j:=3) (i:=1) (rowB []) rfl rfl rfl rfl).trans<|Bb (j:=3) (i:=2) (zGc []) rfl rfl rfl rfl) ?_;refine zB<|zB<|zA rfl<|v0s<|veT<|zF ?_;have hol:(zBp (zAf rows) (Av n)).length=n:=by rw[(zA5 _ _).length_eq];simp
 have hom:∀i∈zBp (zAf rows) (Av n),i<n:=λi h=>by
  have:=(zA5 _ _).mem_iff.1 h
  simpa using this
 generalize zBp (zAf rows) (Av n)=od at*;refine zQ (λ(t:Nat)=>fr 56 [(1,Ai 0 0),(2,Ai 1 0),(5,Ai 3 0),(28,Ah 2 0 n n Ab),(29,iD (n:Int)),(30,iD (t:Int))]) (λ(t:Nat)=>[⟨[.row (nsD A) a,.row (rows.map rowV) n,.row (vals.flatMap ckD) n],48,0,Ac,if n=0 then Ac else Ab,.plain⟩,fB1K nl nl nl,intB<|nsD od,fB1K (.row (nsD A) a) (.osl 4 0 t t Ab)<|.osl 5 0 t (t*2) Ab,rowB<|((od.take t).map λi=>rows.getD i []).map rowV,zGc<|((od.take t).map λi=>vals.getD i Ak).flatMap ckD]) (λt=>n-t) (λ(t:Nat)=>t<=n) 0 ?_ ?_ ?_
 ·omega
 ·refine vk 6
 rintro t h5;rcases AF t n with h6|h6
 ·have hi:=hom _ (zBv od t (by omega));have e0:od.take (t+1)=od.take t++[od.getD t 0]:=by
   rw[Bh (by omega),Au,AC (by omega)];rfl
  have e1:((od.take (t+1)).map λi=>rows.getD i []).map rowV=((od.take t).map λi=>rows.getD i []).map rowV++[rowV (rows.getD (od.getD t 0) [])]:=by rw[e0];simp
  have e2:((od.take (t+1)).map λi=>vals.getD i Ak).flatMap ckD=((od.take t).map λi=>vals.getD i Ak).flatMap ckD++ckD (vals.getD (od.getD t 0) Ak):=by rw[e0];simp
  have hvg:=zA9 zAv vals _ (show od.getD t 0<vals.length by omega);have hvl:=zB5 zAv vals _ (show od.getD t 0<vals.length by omega);have hvn:=zCb zAv (by decide) vals;have hln:(((od.take t).map λi=>vals.getD i Ak).flatMap ckD).length=t*2:=by rw[zCc zAv];simp;omega
  have hv1:=zAv (vals.getD (od.getD t 0) Ak);focus
   refine zB<|zA rfl<|v0s<|veT<|zB<|vT ((t:Int)<(n:Int))<|zJ<|zC<|zE<|zB<|zF<|zB<|zA rfl<|vr 1 ((0:Int)<=(t:Int)/\(t:Int)<(n:Int))<|vo 32 2 (t)<|vr 1 (0<Aa (Ag t<|Az<|intB<|nsD od))<|vs 33 (AJ (Ag t<|Az<|intB<|nsD od) Uk) (iD (↑(Af od t 0):Int)) (hd:=by simp(disch:=omega) only[zAi])<|veT<|zB<|vd [0,2,4,1,3,5,6,7,8,9,10]<|vr 6 (True/\True/\0<2/\0<2/\ix (↑(Af od t 0):Int) (n:Int) (Ad rowV rows≠[])) (vp 39 (Af od t 0) (Ad rowV rows) ?_) ⟨trivial,trivial,(by omega),(by omega),⟨(by omega),⟨(by omega),(by exact zX)⟩⟩⟩;refine vwh 1 [] [] (0<Aa (Ag (Af od t 0)<|Ad rowV rows)) ?_ ?_;rotate_left;refine vs 40 (AJ (Ag (Af od t 0)<|Ad rowV rows) Uk) (rowV<|Af rows (Af od t 0) []) (hd:=by simp(disch:=omega) only[zY])<|vr 4 (((1=1/\1<=1/\True)/\0<1/\1=1/\1<=16777216/\1<=9223372036854775807)/\(AV (rowB<|Ad rowV<|Ad (λ(i:Nat)=>Af rows i [])<|Am t od)=Ab/\Aa (Az<|rowB<|Ad rowV<|Ad (λ(i:Nat)=>Af rows i [])<|Am t od)=t*1/\t=t*1/\AM (rowB<|Ad rowV<|Ad (λ(i:Nat)=>Af rows i [])<|Am t od)=110/\AN (rowB<|Ad rowV<|Ad (λ(i:Nat)=>Af rows i [])<|Am t od)=1/\1=1/\0<1/\0<24/\110=110/\(t+1)*24<=140737488355328/\1=1/\AK (Ax<|rowB<|Ad rowV<|Ad (λ(i:Nat)=>Af rows i [])<|Am t od)=Ac/\(Ac=Ac\/AL (Ax<|rowB<|Ad rowV<|Ad (λ(i:Nat)=>Af rows i [])<|Am t od)=Ab))/\True/\A_ (An [Ae (nsD A) a,Uk,Ah 5 0 t (t*2) Ab] 48 0 Ac Ac Ao)=Ac/\Ab=Ab/\1=1/\2<=3)<|vb 3 (An [Ae (nsD A) a,Ah 4 0 (t+1) ((t+1)*1) Ab,Ah 5 0 t (t*2) Ab] (AM<|An [Ae (nsD A) a,Uk,Ah 5 0 t (t*2) Ab] 48 0 Ac Ac Ao) (AN<|An [Ae (nsD A) a,Uk,Ah 5 0 t (t*2) Ab] 48 0 Ac Ac Ao) Ac Ac<|Ax<|An [Ae (nsD A) a,Uk,Ah 5 0 t (t*2) Ab] 48 0 Ac Ac Ao) (An [Ae (nsD A) a,Ah 4 0 (t+1) (t+1) Ab,Ah 5 0 t (t*2) Ab] 48 0 Ac Ac Ao) (hd:=by simp(disch:=omega) only[AW])<|veT<|vd [0,2,4,1,3,5,6,7,8,9,10]<|vr 7 (True/\True/\0<1/\0<1/\ix (↑(Af od t 0):Int) (n:Int) (As ckD vals≠[])/\2<=Aa (Ag (Af od t 0*2)<|As ckD vals))<|vs 50 (Ar<|Am 2<|Ag (Af od t 0*2)<|As ckD vals) (Ar<|ckD<|Af vals (Af od t 0) Ak) (hd:=by simp(disch:=omega) only[hvg])<|vr 4 (((2=2/\2<=2/\True)/\0<2/\2=2/\2<=16777216/\1<=9223372036854775807)/\(AV (An (As ckD<|Ad (λ(i:Nat)=>Af vals i Ak)<|Am t od) 54 2 Ab Ac Ao)=Ab/\Aa (As ckD<|Ad (λ(i:Nat)=>Af vals i Ak)<|Am t od)=t*2/\t*2=t*2/\AM (An (As ckD<|Ad (λ(i:Nat)=>Af vals i Ak)<|Am t od) 54 2 Ab Ac Ao)=54/\AN (An (As ckD<|Ad (λ(i:Nat)=>Af vals i Ak)<|Am t od) 54 2 Ab Ac Ao)=2/\2=2/\0<2/\0<32/\54=54/\(t+1)*32<=140737488355328/\2=2/\AK (Ax<|An (As ckD<|Ad (λ(i:Nat)=>Af vals i Ak)<|Am t od) 54 2 Ab Ac Ao)=Ac/\(Ac=Ac\/AL (Ax<|An (As ckD<|Ad (λ(i:Nat)=>Af vals i Ak)<|Am t od) 54 2 Ab Ac Ao)=Ab))/\True/\A_ (An [Ae (nsD A) a,Ah 4 0 (t+1) (t+1) Ab,Uk] 48 0 Ac Ac Ao)=Ac/\Ab=Ab/\1=1/\3<=3)<|vnil<|zD<|zC<|zE<|zA rfl<|vr 2 (i6 ((t:Int)+(1:Int)))<|vnil<|zC ?_;rotate_left
  ·rw[BV,AG];omega
  refine⟨t+1,by omega,by omega,?_⟩;rw[e1,e2];refine vk 6
 refine zB<|zA rfl<|v0s<|veT<|zB<|vF ((t:Int)<(n:Int))<|zT<|zM<|zM<|zR rfl<|zC<|zE<|zB<|zA rfl<|ve (3<=3/\Ac=Ac/\Ab=Ab/\3=3/\3<=3)<|zK<|zBr (3<=3) (Ar [Ae (nsD A) a,Ae (Am t<|Ag 0<|Az<|rowB<|Ad rowV<|Ad (λ(i:Nat)=>Af rows i [])<|Am t od) t,Ae (Am (t*2)<|Ag 0<|Az<|zGc<|As ckD<|Ad (λ(i:Nat)=>Af vals i Ak)<|Am t od) t]) (Ar [Ae (nsD A) a,Ae (Am t<|Ad rowV<|Ad (λ(i:Nat)=>Af rows i [])<|Am t od) t,Ae (Am (t*2)<|As ckD<|Ad (λ(i:Nat)=>Af vals i Ak)<|Am t od) t]) (.inr rfl) (by simp(disch:=omega) only[AY]) ?_ (hc:=by omega);have e:t=n:=by omega
 subst e;rw[AA (by omega:od.length<=t),AA (by simp[hol]),zBs zAv _ t (by simp[hol])]
abbrev zAl(l:List (Rw×(Option Nat))):List D:=(l.map (·.1)).map rowV
abbrev zAq(l:List (Rw×(Option Nat))):List D:=(l.map (·.2)).flatMap ckD
abbrev fcDK(A:List Nat)(l:List (Rw×(Option Nat))):D:= .agg [.row (nsD A) A.length, .row (zAl l) l.length, .row (zAq l) l.length]
theorem zQt(A:List Nat)(l:List (Rw×(Option Nat)))(hb:l.length<=1000000)(hl:∀p∈l,p.1.length<=1000000)(hd:Ndk l):Pure Al 110 [fcDK A l] [] (fcDK A (srtL l)):=by
 have h:=sortedWK A A.length (l.map (·.1)) (l.map (·.2)) l.length (by simp) (by simp) hb (λr hr=>by
  obtain⟨p,hp,rfl⟩:=AD.1 hr;exact hl p hp) (show(l.map (·.1)).Nodup from hd)
 have hi:∀i∈zBp (zAf (l.map (·.1))) (Av l.length),i<l.length:=λi h=>by
  have:=(zA5 _ _).mem_iff.1 h
  simpa using this
 have e1:(zBp (zAf (l.map (·.1))) (Av l.length)).map (λi=>(l.map (·.1)).getD i [])=(srtL l).map (·.1):=by
  rw[<-zCn hd,A4];refine BC λi hh=>?_;simp[Au,hi i hh]
 have e2:(zBp (zAf (l.map (·.1))) (Av l.length)).map (λi=>(l.map (·.2)).getD i Ak)=(srtL l).map (·.2):=by
  rw[<-zCn hd,A4];refine BC λi hh=>?_;simp[Au,hi i hh]
 rw[e1,e2]at h;have e3:=zPa hd;show Pure Al _ _ [] (.agg [.row (nsD A) A.length, .row (zAl (srtL l)) (srtL l).length, .row (zAq (srtL l)) (srtL l).length]);rw[e3];exact h
set_option maxHeartbeats 1000000 in
theorem zTi(A U:List Nat)(a u nv:Nat)(ha:A.length=a)(hu:U.length=u)(la:a<=32)(lu:u<=32)(hA:∀v∈A,v<32)(hU:∀v∈U,v<32)(rows:List (List Va))(n:Nat)(hn:rows.length=n)(ln:n<=1000000)(hr:∀r∈rows,r.length=a)(hv:∀r∈rows,∀v∈r,Vs v)(y:List D)(m:Nat)(hm:m<4294967296):
  Pure Al 109 [.agg [.row (nsD A) a, .row (rows.map rowV) n, .row y nv], .row (nsD U) u,u32D m] [] (.agg (flC (zAu (λv=>(msk A&&&m).testBit v) U,allK (rows.map λr=>zP r (zAu (λv=>(msk A&&&m).testBit v) A))))):=by
 subst hn ha hu;have hma:=zA3 hA;have h1:=zJz A _ rfl (by omega) hA (rows.map rowV) y rows.length nv;have h5:=zMt (b:=m) hma;have h2:=zB0 U U _ rfl hU _ h5;have h3:=zB0 A A _ rfl hA _ h5;refine zH zBf mixed Tryz.func109 rfl<|zB<|zA rfl<|v0s<|veT<|zB<|zA rfl<|vr 1 (3<=3)<|vc (h1)<|vrT 2<|vs 15 (Ay<|AI AB<|A1 AB (↑(AH (Ap 32 (↑(msk A):Int)&&&Ap 32 (m:Int))):Int)) (dig (msk A&&&m)) (hd:=by simp(disch:=omega) only[zNy,zA1])<|veT<|zB<|zA rfl<|vrT 2<|vc (h2)<|ve (True/\((1=1/\1<=2/\1=1/\2<=2/\True)/\Ab=Ab)/\Ac=Ac/\Ab=Ab/\2=2/\2<=2)<|zB<|zA rfl<|vr 3 (True/\0<3)<|vc (h3)<|veT<|zB<|zB<|zA rfl<|ve (True/\0<2)<|zF ?_;obtain⟨cA,hcA⟩:∃cA,cA=zAu (λv=>(msk A&&&m).testBit v) A:=⟨_,rfl⟩;obtain⟨cU,hcU⟩:∃cU,cU=zAu (λv=>(msk A&&&m).testBit v) U:=⟨_,rfl⟩;have hcl:∀c∈cA,c<A.length:=λc h=>by
  rw[hcA]at h;simpa using(A7.1 h).1
 have hcn:cA.length<=1000:=by rw[hcA];exact AX (A9 _ _) (by simp;omega)
 rw[<-hcA,<-hcU];refine zQ (λ(i:Nat)=>fr 39 [(6,Ai 1 0),(8,Ai 3 0),(9,Ae (nsD cA)<|Aa cA),(26,Ae (Ad rowV rows)<|Aa rows),(27,iD (Aa rows:Int)),(28,iD (i:Int))]) (λi=>[fB1K (.row (nsD A) A.length) (.row (rows.map rowV) rows.length)<|.row y nv,flB1 nl<|.val<|.map Aq,mapB<|allK<|(rows.map λr=>zP r cA).take i,flB1 (.row (nsD cU) cU.length)<|.mref 2]) (λi=>rows.length-i) (λi=>i<=rows.length) 0 ?_ ?_ ?_
 ·omega
 ·refine vk 4
 rintro i h6;rcases AF i rows.length with h7|h7
 ·have hd:((rows.map rowV).drop i).headD .unk=rowV (rows.getD i []):=zEi rowV rows [] i h7;have hm:rows.getD i []∈rows:=by rw[Au,AC h7];exact AZ h7
  have hk:=zJw (rows.getD i []) cA _ _ rfl rfl (by rw[hr _ hm];exact hcl) (hv _ hm) (ln:=by rw[hr _ hm];omega);have hs:=zMw (rows.map λr=>zP r cA) i (by simpa using h7);rw[show(rows.map λr=>zP r cA).getD i []=zP (rows.getD i []) cA by simp[Au,h7]]at hs;generalize allK ((rows.map λr=>zP r cA).take i)=K at*;focus
   refine zB (zA rfl (v0s (veT (zB (vT ((i:Int)<(Aa rows:Int)) (zJ (zC (zE (zB (zF (zB (zA rfl (vr 1 (ix (i:Int) (Aa rows:Int) (Ad rowV rows≠[])) ?_ ⟨(by omega),⟨(by omega),(by exact zX)⟩⟩)))))))))))));refine vp 30 (i) (Ad rowV rows) (vr 1 (0<Aa (Ag i (Ad rowV rows))) (vsh 31 hd (veT (vd [0,2,3,1,4,5] (vr 4 (True/\0<1) (vc (hk) (vwh 1 [] [] (A_ (mapB K)=Ac/\zS (AO (AP AQ "string" 1 16 Ab 8 8 (Aj (Aw (AR #[]))) Ab #[])) (Aw (bs (idR (zP (Af rows i []) cA))))=Ab/\Bi (Ad kyv K) (zS (AO (AP AQ "string" 1 16 Ab 8 8 (Aj (Aw (AR #[]))) Ab #[])))=Ab/\¬2∈[]) ?_ ?_)))))));rotate_left;refine vnil (zD (zC (zE (zA rfl (vr 2 (i6 ((i:Int)+(1:Int))) (vnil (zC ?_)))))));rotate_left
  ·exact⟨rfl,rfl,zBt _,by simp⟩
  refine⟨i+1,by omega,by omega,?_⟩;rw[hs];have hmp:=zZa K (zP (rows.getD i []) cA);refine wkn (fr 39 [(6,Ai 1 0),(8,Ai 3 0),(9,Ae (nsD cA) (Aa cA)),(11,Ae (zN (Af rows i [])) (Aa (Af rows i []))),(26,Ae (Ad rowV rows) (Aa rows)),(27,iD (Aa rows:Int)),(28,iD (↑(i+1):Int)),(32,Ai 3 1),(33,Ba 2),(34,Ae (zN (Af rows i [])) (Aa (Af rows i []))),(35,Ae (nsD cA) (Aa cA)),(36,Ay (Aw (bs (idR (zP (Af rows i []) cA))))),(37,iD (↑(i+1):Int))]) [fB1K (Ae (nsD A) (Aa A)) (Ae (Ad rowV rows) (Aa rows)) (Ae y nv),flB1 nl (Ay (Value.map Aq)),mput (mapB K) (Ad kyv K) (Aw (bs (idR (zP (Af rows i []) cA)))) (bD Ab),flB1 (Ae (nsD cU) (Aa cU)) (Ba 2)] ?_;rw[hmp];refine vk 4
 refine zB<|zA rfl<|v0s<|veT<|zB<|vF ((i:Int)<(Aa rows:Int))<|zT<|zM<|zM<|zR rfl<|zC<|zE<|zB<|zA rfl<|ve (2<=2/\Ac=Ac/\Ab=Ab/\2=2/\2<=2)<|zK<|vre (2<=2) (Ar [Ae (nsD cU)<|Aa cU,D.mfz (Ad kyv<|allK<|Am i<|Ad (λ(r:List Va)=>zP r cA) rows)<|Ad (λ(x:List Va)=>bD Ab)<|allK<|Am i<|Ad (λ(r:List Va)=>zP r cA) rows]) (.inr rfl) ?_;rw[AA (by simp;omega)]
end
section
open Go.RowKit
section
variable {T : Par} {sl : List D} {st : List Bk}
theorem Weak.frzSlot{s:Nat}{d x:D}{ks:List Nat}(hs:sl[s]?=Aj d)(hx:frz Ab st zA6 d=Aj (x,ks)):Weak T sl st (sl.set s x) (zAy st ks):=by
 intro β I w tm h;obtain⟨v,hv,hr⟩:=h.rel.get s _ hs;have hfr:=zB8 h.sr.weak _ _ _ _ v hx hr;have h0:=h.fzAll ks;refine⟨β,fixI I β st ks,⟨?_,h0.sr,h0.inj,h0.fz,h0.dom,h0.imb,h0.gl⟩,Stp.fzAll h ks,Kp.refl _ _⟩;refine RelT.of_get (by rw[CE,h0.rel.length]) λi d' u hd hu=>?_;rw[List.getElem?_set]at hd;split at hd
 ·grind [Rel.no]
 obtain⟨u',g1,g2⟩:=h0.rel.get i d' hd;rw[hu]at g1;cases g1;exact g2
theorem frz_osl{st:List Bk}{n k off l m:Nat}{wh:Bool}{e:Bk}(h:st[k]?=Aj e)(hm:e.kd.isMap=Ac)(hn:e.nob=Ab):frz Ab st (n+1) (.osl k off l m wh)=Aj (.row ((e.cells.drop off).take m) l,[k]):=by
 grind [only,frz,BM]
end
theorem zBa{sl:List D}{i j:Nat}(d:D)(h:j≠i):(sl.set i d).getD j .unk=sl.getD j .unk:=by
 simp[Au,BJ (Ne.symm h)]
theorem zEj{sl:List D}{i:Nat}(d:D)(h:i<sl.length):(sl.set i d).getD i .unk=d:=by
 simp[Au,h]
section
variable {P : Program} {T : Par} {ops : Array Oper} {dr : Bool} {l : List Oper} {sl : List D} {st base : List Bk} {K : List D → List Bk → Prop} {m : Nat} {mt it kt tS : TypeId} {L : List Rw} {ns : List Nat} {inf : TypeInfo}
structure GTy(P:Program)(T:Par)(mt kt tS it:TypeId)(inf:TypeInfo):Prop where
 hmt:P.underlying mt=Aj (.map kt tS)
 hkt:P.underlying kt=Aj .string
 hts:P.underlying tS=Aj (.slice it)
 hzv:zeroV P tS=Aj nl
 hsz:tySz P it=Aj 1
 hzd:zJh P it=Aj [iD 0]
 hif:P.info? it=Aj inf
 hi1:inf.size=1
 hi8:inf.bytes=8
 hsh:T.sh it=Ac
theorem zN9(ty:GTy P T mt kt tS it inf)(hkp:∀k,m<k->T.keep k=Ac){r:Rw}{i:Nat}(hi:i=L.length)(hil:i<=1000000){o1 o2 o3 o4 o5:Oper}{a1 a2 a3 b1 b2 s1 s2 s3 s4:Nat}
  (g1:o1.guard=Aq)(g2:o2.guard=Aq)(g3:o3.guard=Aq)(g4:o4.guard=Aq)(g5:o5.guard=Aq)
  (p1:o1.op= .lookup mt (.tmp a1) (.tmp a2) Ac)(p2:o2.op= .move (.tmp a3))(p3:o3.op= .buildSlice tS 1 #[(0, .tmp s2)])(p4:o4.op= .call {callee:= .builtin .append,args:=#[.tmp s1, .tmp s3],argTypes:=#[tS,tS]})(p5:o5.op= .mapUpdate mt (.tmp b1) (.tmp b2) (.tmp s4))
  (d1:o1.dst=Aj s1)(d2:o2.dst=Aj s2)(d3:o3.dst=Aj s3)(d4:o4.dst=Aj s4)(d5:o5.dst=Aq)
  (hlen:(decide (s1<sl.length)&&decide (s2<sl.length)&&decide (s3<sl.length)&&decide (s4<sl.length))=Ab)(hne:(s1≠s2/\s1≠s3/\s1≠s4/\s2≠s3/\s2≠s4/\s3≠s4)/\(a3≠s1/\b1≠s1/\b1≠s2/\b1≠s3/\b1≠s4/\b2≠s1/\b2≠s2/\b2≠s3/\b2≠s4))
  (v1:sl.getD a1 .unk= .mref m)(v2:sl.getD a2 .unk= .val (kyv r))(v3:sl.getD a3 .unk=iD i)(v4:sl.getD b1 .unk= .mref m)(v5:sl.getD b2 .unk= .val (kyv r))
  (hrb:rBL (m+1) sl=Ab)(hbb:bBL m base=Ab)(hG:Grp m mt it L base st ns)
  (next:∀st' ns' e1 e3 e4,Grp m mt it (L++[r]) base st' ns'->seqW P T ops dr l ((((sl.set s1 e1).set s2 (iD i)).set s3 e3).set s4 e4) st' K):
  seqW P T ops dr (o1::o2::o3::o4::o5::l) sl st K:=by
 simp only[A6,decide_eq_true_eq]at hlen;obtain⟨⟨⟨l1,l2⟩,l3⟩,l4⟩:=hlen;obtain⟨⟨n1,n2,n3,n4,n5,n6⟩,m1,m2,m3,m4,m5,m6,m7,m8,m9⟩:=hne;have hml:=hG.lt;have hpl:(posL L r).length<=1000000:=by
  unfold posL;exact AX (A9 _ _) (by simp;omega)
 have hkeyf:(zS .string (kyv r)=Ab/\((allK L).map kyv).all (zS .string)=Ab):=⟨rfl,zBt _⟩;have e1:aeff P T o1.op o1.type (evD sl) st= .get (zS .string (kyv r)=Ab/\((allK L).map kyv).all (zS .string)=Ab) (zJt Ac nl ((allK L).map kyv) (zCx L ns (allK L)) (kyv r)):=by
  rw[p1];simp only[aeff,evD,v1,v2,zJ6,ty.hmt,hG.mp,zGj,ty.hkt,ty.hzv]
 refine zDe g1<|go_get e1 (by rw[p1];rfl) hkeyf rfl ?_;rw[d1];simp only[putD];generalize hd1:zJt Ac nl ((allK L).map kyv) (zCx L ns (allK L)) (kyv r)=D1;have e2:aeff P T o2.op o2.type (evD (sl.set s1 D1)) st= .lit True (iD i):=by
  rw[p2];simp only[aeff,evD,zBa D1 m1,v3]
 refine zDe g2<|zZu e2 (by rw[p2];rfl) trivial rfl ?_;rw[d2];simp only[putD];have e3:aeff P T o3.op o3.type (evD ((sl.set s1 D1).set s2 (iD i))) st= .new (True/\0<1/\1=1/\1*1<=16777216/\1<=9223372036854775807) ⟨[iD i],it,1,Ab,Ac, .plain⟩ (.osl st.length 0 1 (1*1) Ab) []:=by
  rw[p3];have hev:evD ((sl.set s1 D1).set s2 (iD i)) (.tmp s2)=iD i:=by
   simp only[evD];exact zEj _ (by simpa using l2)
  have hes:zG8 P T tS=false:=by simp only[zG8,ty.hts,ty.hsh]
  simp only[aeff,hes,BM,if_false,Bf,BQ,hev,zDd,ty.hts,ty.hsz,ty.hzd];simp[zGw,frz,zA6,zJf,repL,setAt,zG2,cellsOf,zGe];rfl
 refine zDe g3<|zZt e3 (by rw[p3];rfl) (by decide) rfl rfl ?_;rw[d3];simp only[putD,zAy,Cn,AW];generalize htmp:(⟨[iD i],it,1,Ab,Ac, .plain⟩:Bk)=tmp;have htn:tmp.nob=true:=by rw[<-htmp];rfl
 have hs3:(((sl.set s1 D1).set s2 (iD i)).set s3 (.osl st.length 0 1 1 Ab)).getD s3 .unk= .osl st.length 0 1 1 true:=zEj _ (by simpa using l3);have hs1:(((sl.set s1 D1).set s2 (iD i)).set s3 (.osl st.length 0 1 1 Ab)).getD s1 .unk=D1:=by
  rw[zBa _ n2,zBa _ n1,zEj _ l1]
 have hnew:(st++[tmp])[st.length]?=Aj tmp:=by simp
 have hsrc:zFa Ac (st++[tmp]) (.osl st.length 0 1 1 Ab)=Aj ([iD i],1):=by
  simp only[zFa,hnew];rw[<-htmp];rfl
 have hsh:zG8 P T tS=false:=by simp only[zG8,ty.hts,ty.hsh]
 have hmu:∀(sl':List D)(st':List Bk)(e:Bk)(d:D),sl'.getD b1 .unk= .mref m->sl'.getD b2 .unk= .val (kyv r)->sl'.getD s4 .unk=d->st'[m]?=Aj e->e.kd= .map ((allK L).map kyv)->e.nob=Ac->e.fz=Ac->
   aeff P T o5.op o5.type (evD sl') st'= .put (e.fz=Ac/\zS .string (kyv r)=Ab/\((allK L).map kyv).all (zS .string)=Ab) m (mput e ((allK L).map kyv) (kyv r) d) []:=λsl' st' e d q1 q2 q3 q4 q5 q6 q7=>by
  rw[p5];simp only[aeff,evD,q1,q2,q3,zDc,ty.hmt,q4,ty.hkt,q5,q6,BM,if_false]
 by_cases hr:r∈allK L
 ·have hj:=BN.2 hr;obtain⟨k,hk⟩:∃k,ns[(allK L).idxOf r]?=Aj k:=⟨ns[(allK L).idxOf r]'(by rw[hG.len];exact hj),AC _⟩
  have hrr:(allK L)[(allK L).idxOf r]?=Aj r:=by rw[AC hj];simp
  obtain⟨hmk,hkst⟩:=hG.at_ _ k r hk hrr;have hkl:k<st.length:=(Bj.1 hkst).1;have hD1:D1= .osl k 0 (posL L r).length (posL L r).length true:=by
   rw[<-hd1];unfold zJt;rw[zD3,zBw,if_pos hr];simp only[ctD,BM,if_false,Au];rw[zEb,hk,hrr];rfl
  subst hD1;have hkst2:(st++[tmp])[k]?=Aj (gArr it L r):=by rw[Bt hkl];exact hkst
  have e4:aeff P T o4.op o4.type (evD (((sl.set s1 (.osl k 0 (posL L r).length (posL L r).length Ab)).set s2 (iD i)).set s3 (.osl st.length 0 1 1 Ab))) (st++[tmp])= .app ((gArr it L r).arr=Ab/\(gArr it L r).cells.length=(posL L r).length*inf.size/\(posL L r).length=(posL L r).length*inf.size/\(gArr it L r).ty=it/\(gArr it L r).sz=inf.size/\[iD i].length=1*inf.size/\0<inf.size/\0<inf.bytes/\it=it/\((posL L r).length+1)*inf.bytes<=140737488355328/\[iD 0].length=inf.size/\(gArr it L r).kd.isMap=Ac/\(Ac=Ac\/(gArr it L r).kd.isSh=Ab))
    k {gArr it L r with cells:=if(gArr it L r).nob then(gArr it L r).cells++[iD i]else((gArr it L r).cells++[iD i]).map (zBy k)} (.osl k 0 ((posL L r).length+1) (((posL L r).length+1)*inf.size) Ab):=by
   rw[p4];simp only[aeff,evD,hs1,hs3,unB,hsh,zGk,ty.hts,ty.hif,ty.hzd,hsrc,aApp,hkst2]
  have hnb:(gArr it L r).nob=true:=rfl;rw[hnb,if_pos rfl,ty.hi1,AW]at e4;refine zDe g4<|go_app e4 (by rw[p4];rfl) (hkp k hmk) ?_ rfl rfl ?_
  ·rw[ty.hi8];exact⟨rfl,by simp,by omega,rfl,rfl,rfl,by decide,by decide,rfl,by omega,rfl,rfl, .inl rfl⟩
  rw[d4];simp only[putD];have hsl:(((sl.set s1 (.osl k 0 (posL L r).length (posL L r).length Ab)).set s2 (iD i)).set s3 (.osl st.length 0 1 1 Ab)).map (zBy k)=((sl.set s1 .unk).set s2 (iD i)).set s3 (.osl st.length 0 1 1 Ab):=by
   rw[List.map_set,List.map_set,List.map_set,zPt (m:=m+1) (by omega) hrb];have q1:zBy k (.osl k 0 (posL L r).length (posL L r).length Ab)= .unk:=by unfold zBy;simp[refs]
   have q2:zBy k (iD i)=iD i:=zK3 rfl;have q3:zBy k (.osl st.length 0 1 1 Ab)= .osl st.length 0 1 1 true:=zK3 (by simp only[refs,beq_eq_false_iff_ne];omega);rw[q1,q2,q3]
  rw[hsl];have hp1:(posL (L++[r]) r)=posL L r++[i]:=by rw[zFj,if_pos rfl,hi]
  have hb':({gArr it L r with cells:=(gArr it L r).cells++[iD i]}:Bk)=gArr it (L++[r]) r:=by
   show(⟨nsD (posL L r)++[iD i],it,1,Ab,Ac, .plain⟩:Bk)=⟨nsD (posL (L++[r]) r),it,1,Ab,Ac, .plain⟩;rw[hp1];simp
  rw[hb'];have hml2:m<((st++[tmp]).map (zCw k)).length:=by simp;omega
  have hmp2:(((st++[tmp]).map (zCw k)).set k (gArr it (L++[r]) r))[m]?=Aj ⟨(zCx L ns (allK L)).map (zBy k),mt,0,Ac,Ac, .map ((allK L).map kyv)⟩:=by
   rw[BJ (by omega),Cd,Bt hml,hG.mp];rfl
  refine zDe g5<|zZs (hmu _ _ _ _ ?_ ?_ (zEj _ (by simpa using l4)) hmp2 rfl rfl rfl) (by rw[p5];rfl) ⟨rfl,hkeyf⟩ rfl rfl ?_
  ·rw[zBa _ m5,zBa _ m4,zBa _ m3,zBa _ m2,v4]
  ·rw[zBa _ m9,zBa _ m8,zBa _ m7,zBa _ m6,v5]
  rw[d5];simp only[putD,zAy,Cn];refine next _ ns _ _ _ (hG.more hbb hr hk tmp htn rfl ?_)
  unfold mput;rw[zD3,zBw,if_pos hr];simp only[hp1,A8,Bq,BS,AW,BH]
 have hD1:D1=nl:=by
  rw[<-hd1];unfold zJt;rw[zD3,zBw,if_neg hr];rfl
 subst hD1;have e4:aeff P T o4.op o4.type (evD (((sl.set s1 nl).set s2 (iD i)).set s3 (.osl st.length 0 1 1 Ab))) (st++[tmp])= .new ([iD i].length=1*inf.size/\0<inf.size/\0<inf.bytes/\it=it/\1*inf.bytes<=140737488355328/\[iD 0].length=inf.size) ⟨[iD i],it,inf.size,Ab,Ac,kdOf Ac⟩ (.osl (st++[tmp]).length 0 1 (1*inf.size) Ab) []:=by
  rw[p4];simp only[aeff,evD,hs1,hs3,unB,hsh,zGk,ty.hts,ty.hif,ty.hzd,hsrc,aApp]
 rw[ty.hi1]at e4;refine zDe g4<|zZt e4 (by rw[p4];rfl) ?_ rfl rfl ?_
 ·rw[ty.hi8];exact⟨rfl,by decide,by decide,rfl,by decide,rfl⟩
 rw[d4];simp only[putD,zAy,Cn];have hp1:(posL (L++[r]) r)=[i]:=by rw[zFj,if_pos rfl,hi,zHz λh=>hr ((zFu L r).2 h)];rfl
 have hmp2:(st++[tmp]++[(⟨[iD i],it,1,Ab,Ac,kdOf Ac⟩:Bk)])[m]?=Aj ⟨zCx L ns (allK L),mt,0,Ac,Ac, .map ((allK L).map kyv)⟩:=by
  rw[BI,Bt hml,hG.mp]
 refine zDe g5<|zZs (hmu _ _ _ _ ?_ ?_ (zEj _ (by simpa using l4)) hmp2 rfl rfl rfl) (by rw[p5];rfl) ⟨rfl,hkeyf⟩ rfl rfl ?_
 ·rw[zBa _ m5,zBa _ m4,zBa _ m3,zBa _ m2,v4]
 ·rw[zBa _ m9,zBa _ m8,zBa _ m7,zBa _ m6,v5]
 rw[d5];simp only[putD,zAy,Cn];refine next _ (ns++[st.length+1]) _ _ _ (hG.new hr tmp (b':=⟨[iD i],it,1,Ab,Ac,kdOf Ac⟩) ?_ ?_)
 ·show(⟨[iD i],it,1,Ab,Ac, .plain⟩:Bk)=⟨nsD (posL (L++[r]) r),it,1,Ab,Ac, .plain⟩;rw[hp1];rfl
 unfold mput;rw[zD3,zBw,if_neg hr];simp
theorem zKm{o:Oper}{s:Nat}{x:Operand}(v:D)(g:o.guard=Aq)(p:o.op= .move x)(d:o.dst=Aj s)(hv:evD sl x=v)(next:seqW P T ops dr l (sl.set s v) st K):seqW P T ops dr (o::l) sl st K:=by
 have e:aeff P T o.op o.type (evD sl) st= .lit True v:=by rw[p,<-hv];rfl
 refine zDe g<|zZu e (by rw[p];rfl) trivial rfl ?_;rw[d];exact next
theorem zLz{b:Code}{Q:Exit->List D->List Bk->Prop}(h:∀s0,s0=sl->zAh P T b Q s0 st):zAh P T b Q sl st:=h sl rfl
theorem zL0{b:Code}{Q:Exit->List D->List Bk->Prop}(dead:List Nat){sl':List D}(e:zAs sl dead=sl')(k:awp P T b Q sl' st):zAh P T b Q sl st:=⟨_,_,Weak.slots (LeL.dead dead sl),e▸k⟩
theorem frz_mref{st:List Bk}{n k:Nat}{e:Bk}{ks:List Value}(h:st[k]?=Aj e)(hm:e.kd= .map ks)(hn:e.nob=Ac):frz Ab st (n+1) (.mref k)=(mapF (frz Ab st n) e.cells).map λx=>(.mfz ks x.1,k::x.2):=by
 simp only[frz,h,hm,hn,BM,if_false]
theorem gfrz{L:List Rw}{it:TypeId}{st:List Bk}:∀(ns:List Nat)(K:List Rw),ns.length=K.length->(∀(j k:Nat)(r:Rw),ns[j]?=Aj k->K[j]?=Aj r->st[k]?=Aj (gArr it L r))->mapF (frz Ab st 8) (zCx L ns K)=Aj (K.map λr=> .row (nsD (posL L r)) (posL L r).length,ns)
 |[],[],_,_=>rfl
 | n::ns,r::K,h,ha=>by
  have h1:=ha 0 n r rfl rfl;have ih:=gfrz (L:=L) (it:=it) (st:=st) ns K (by simpa using h) λj k s h1 h2=>ha (j+1) k s (by simpa using h1) (by simpa using h2);have e:frz Ab st 8 (.osl n 0 (posL L r).length (posL L r).length Ab)=Aj (.row (nsD (posL L r)) (posL L r).length,[n]):=by
   have h2:=frz_osl (n:=7) (off:=0) (l:=(posL L r).length) (m:=(posL L r).length) (wh:=Ab) h1 rfl rfl;rw[AY,zFy _ _ rfl]at h2;exact h2
  simp only[zCx,mapF,e,ih];rfl
theorem zN4(hkp:∀k,m<=k->T.keep k=Ac){s:Nat}(hs:sl[s]?=Aj (.mref m))(hrb:rBL m (sl.set s .unk)=Ab)(hbb:bBL m base=Ab)(hG:Grp m mt it L base st ns):Weak T sl st (sl.set s (.mfz ((allK L).map kyv) (zM1 L))) base:=by
 have hml:=hG.lt;have hx:frz Ab st zA6 (.mref m)=Aj (.mfz ((allK L).map kyv) (zM1 L),m::ns):=by
  have h2:=frz_mref (n:=8) hG.mp rfl rfl;rw[gfrz ns (allK L) hG.len λj k r h1 h2=>(hG.at_ j k r h1 h2).2]at h2;exact h2
 refine(Weak.frzSlot hs hx).trans ?_;have hlen:(zAy st (m::ns)).length=st.length:=zZ _ _;have htk:(zAy st (m::ns)).take m=base:=by
  rw[<-hG.pre];apply Cl;intro i;rw[BD,BD];split
  ·rename_i hi;rw[zBm];cases e:st[i]? with
   |none=>rfl
   | some x=>
    have hn:i∉m::ns:=by
     intro h;rcases Bg.1 h with h|h
     ·omega
     obtain⟨j,hj,rfl⟩:=List.getElem_of_mem h
     have:=(hG.at_ j ns[j] _ (AC hj) (AC (by rw[<-hG.len];exact hj))).1
     omega
    simp only[BX,if_neg hn]
  rfl
 rw[<-htk];refine Weak.cut m ?_ hkp;unfold zLy;simp only[Bc,Cy,A6,Ci,BK];intro i hi;have hsl:s<sl.length:=(Bj.1 hs).1;have hset:∀(sl:List D)(s:Nat)(d:D),rwG m d=Ab->rBL m (sl.set s .unk)=Ab->rBL m (sl.set s d)=true:=by
  intro sl;induction sl with
  |nil=>intro s d _ h;simpa using h
  |cons a sl ih=>
   intro s d hd h;cases s with
   |zero=>simp only[List.set_cons_zero,rBL,A6]at h⊢;exact⟨hd,h.2⟩
   |succ s=>simp only[List.set_cons_succ,rBL,A6]at h⊢;exact⟨h.1,ih s d hd h.2⟩
 refine⟨zFi (m:=m) (by omega) _ (hset sl s _ rfl hrb),λe he=>?_⟩;rw[htk]at he
 have:=Bc.1 hbb e he
 simp only[BK]at this;exact this.imp id λh=>zFi (by omega) _ h
end
end
section
open Go.RowKit
attribute [local irreducible] seqW awp zAe zAh zAb Weak updS zAs retL Pure Acts rP setP setQ cP nP fr
set_option maxRecDepth 4096
theorem vaB_app(l:List Va)(v:Va):zN (l++[v])=zN l++vaC v:=by rw[zXr];simp[zN]
theorem zT5(l:List Va)(t:Nat)(h:l.length=t)(hb:t<=1000000):(vaB l).arr=Ab/\(vaB l).cells.length=t*3/\t*3=t*3/\(vaB l).ty=107/\(vaB l).sz=3/\3=3/\0<3/\0<32/\107=107/\(t+1)*32<=140737488355328/\3=3/\(vaB l).kd.isMap=Ac/\(Ac=Ac\/(vaB l).kd.isSh=Ab):=
 ⟨rfl,by rw[<-h];exact zE4 l,rfl,rfl,rfl,rfl,by decide,by decide,rfl,by omega,rfl,rfl, .inl rfl⟩
theorem zHq(l:List Va)(v:Va):vaB (l++[v])=⟨zN l++vaC v,107,3,Ab,Ac, .plain⟩:=by rw[<-vaB_app]
set_option maxHeartbeats 4000000 in
theorem zS1(A B:List Nat)(x y:List Va)(n a b:Nat)(hn:(un A B).length=n)(ha:A.length=a)(hb:B.length=b)(hx:x.length=a)(hy:y.length=b)(hA:Asc A)(hB:Asc B)(la:a<=32)(lb:b<=32)(ln:n<=32):
  Pure Al 95 [.row (nsD (un A B)) n, .row (nsD A) a, .row (zN x) a, .row (nsD B) b, .row (zN y) b] [] (.row (zN (mg A x B y)) n):=by
 have hU:Asc (un A B):=zQm A B;have hAU:∀v∈A,v∈un A B:=λv h=>zD0.2 ⟨hA.2 v h, .inl h⟩;have hBU:∀v∈B,v∈un A B:=λv h=>zD0.2 ⟨hB.2 v h, .inr h⟩;have mgt:=mg_take A x B y;have hmem:∀v∈un A B,v∈A\/v∈B:=λv h=>(zD0.1 h).2;unfold mg;have sgA:∀v,v∈A->sg A x B y v=x.getD (cntL A v) default:=λv h=>by rw[sg,if_pos h,asg_cnt hA.1 x h]
 have sgB:∀v,v∉A->v∈B->sg A x B y v=y.getD (cntL B v) default:=λv h k=>by rw[sg,if_neg h,asg_cnt hB.1 y k]
 generalize sg A x B y=σ at*;generalize un A B=U at*;subst hn ha hb;refine zH zBf mixed Tryz.func95 rfl<|vAu<|vA<|ve ((0:Int)<=(0:Int)/\(0:Int)<=(Aa U:Int)/\(↑(32:Nat):Int)*(Aa U:Int)<=(281474976710656:Int)/\(Aa U:Int)<=(281474976710656:Int)/\0<3/\3=3)<|vAe<|zB<|vAe<|zF<|zA2 (λ(t:Nat)(l:List Va)=>fr 73 [(1,Ae (nsD A)<|Aa A),(2,Ae (zN x)<|Aa A),(3,Ae (nsD B)<|Aa B),(4,Ae (zN y)<|Aa B),(10,nl),(11,Ah 0 0 t (t*3) Ab),(12,iD (↑(cntL A<|bdU U t):Int)),(13,iD (↑(cntL B<|bdU U t):Int)),(21,Ae (nsD U)<|Aa U),(22,iD (Aa U:Int)),(23,iD (t:Int))]) (λt l=>[vaB l]) (λt l=>U.length-t) (λ(t:Nat)(l:List Va)=>t<=U.length/\l=(U.take t).map σ) 0 [] ?_ ?_ ?_
 ·exact⟨by omega,by simp⟩
 ·refine wk 12 (iD 0) (iD (↑(cntL A (bdU U 0)):Int)) (by simp[updB,cntL0 hU hAU,cntL0 hU hBU]) (wk 13 (iD 0) (iD (↑(cntL B (bdU U 0)):Int)) (by simp[updB,cntL0 hU hAU,cntL0 hU hBU]) (vk 1))
 rintro t l ⟨h1,h2⟩;rcases AF t U.length with h3|h3
 ·have hv:=bdU_lt hU.2 h3;have hs:=zR1 hU hA.nd hAU h3;have hs':=zR1 hU hB.nd hBU h3;have hm:=mgt t h3;rw[<-h2]at hm;have hd:=bdU_getD h3;have hk:=hmem _ hv;have hll:l.length=t:=by rw[h2];simp;omega
  by_cases ha:bdU U t∈A
  ·obtain⟨p1,p2⟩:=zTv hA.1 ha;rw[sgA _ ha]at hm;rw[if_pos ha]at hs;by_cases hb:bdU U t∈B
   ·obtain⟨q1,q2⟩:=zTv hB.1 hb;rw[if_pos hb]at hs';generalize bdU U t=v at*;generalize cntL A v=i at*;generalize cntL B v=k at*;focus
     refine vAu<|zB<|vT ((t:Int)<↑(Aa U))<|vKB<|vA<|vr 1 (ix ↑t ↑(Aa U) (nsD U≠[])) ?_ ⟨(by omega),⟨(by omega),(by exact zX)⟩⟩;refine vp 25 t (nsD U)<|vr 1 (0<Aa (Ag t<|nsD U))<|vs 26 (AJ (Ag t<|nsD U) Uk) (iD v) (hd:=by simp(disch:=omega) only[zAi,hd])<|veT<|zB<|vd [0,1,2,3,4,5,6,7,9,12,13,14,15,16,17,18,19,21,8,10,11,24,20,22,23,25]<|vw 8 [] [(4,Ab)] (decide ((i:Int)<↑(Aa A))=Ab/\ix ↑i ↑(Aa A) (nsD A≠[])) (vp 34 i (nsD A)<|vw 9 [] [(16,Ab)] (decide ((k:Int)<↑(Aa B))=Ab/\ix ↑k ↑(Aa B) (nsD B≠[])) (vp 46 k (nsD B)<|vr 2 (0<Aa (Ag i<|nsD A))<|vs 35 (AJ (Ag i<|nsD A) Uk) (iD v) (hd:=by simp(disch:=omega) only[zAi,p2])<|vr 4 (True/\0<Aa (Ag k<|nsD B))<|vs 47 (AJ (Ag k<|nsD B) Uk) (iD v) (hd:=by simp(disch:=omega) only[zAi,q2]) ?_) ⟨(by exact decide_eq_true (by omega)),⟨(by omega),⟨(by omega),(by exact zX)⟩⟩⟩) ⟨(by exact decide_eq_true (by omega)),⟨(by omega),⟨(by omega),(by exact zX)⟩⟩⟩;refine veT<|zB<|vAe<|vEt ((v:Int)) ((v:Int))<|vA<|vr 5 (ix ↑i ↑(Aa A) (zN x≠[])/\3<=Aa (Ag (i*3)<|zN x)) (vs 56 (Ar<|Am 3<|Ag (i*3)<|zN x) (Ar<|vaC<|Af x i Ak) (hd:=by simp(disch:=omega) only[zDs]) ?_) ⟨⟨(by omega),⟨(by omega),(by exact zGz _)⟩⟩,(by exact zFw _ _)⟩;refine vewh [] [] (((3=3/\3<=3/\True)/\0<3/\3=3/\3<=16777216/\1<=9223372036854775807)/\AV (vaB l)=Ab/\Aa (Az<|vaB l)=t*3/\t*3=t*3/\AM (vaB l)=107/\AN (vaB l)=3/\3=3/\0<3/\0<32/\107=107/\(t+1)*32<=140737488355328/\3=3/\AK (Ax<|vaB l)=Ac/\(Ac=Ac\/AL (Ax<|vaB l)=Ab)) ⟨⟨⟨(by kernel_rfl),⟨(by omega),trivial⟩⟩,(by omega)⟩,?_⟩ ?_;rotate_left;refine zA rfl<|ve (i6 (↑i+1))<|vAe<|vEt ((v:Int)) ((v:Int))<|zA rfl<|vr 3 (i6 (↑k+1))<|vnil<|zD<|vN<|zA rfl<|vr 2 (i6 (↑t+1))<|vnil<|zC ?_;rotate_left
    all_goals first|exact zT5 l t hll (by omega)|skip
    refine⟨t+1,l++[x.getD i Ak],⟨by omega,hm.symm⟩,by omega,?_⟩;rw[zHq];refine wk 12 (iD ↑(i+1)) (iD (↑(cntL A (bdU U (t+1))):Int)) (by(simp;omega)) (wk 13 (iD ↑(k+1)) (iD (↑(cntL B (bdU U (t+1))):Int)) (by(simp;omega)) (vk 1))
   rw[if_neg hb,Nat.add_zero]at hs';have q1:=cntL_no hb;generalize bdU U t=v at*;generalize cntL A v=i at*;generalize cntL B v=k at*;focus
    refine vAu<|zB<|vT ((t:Int)<↑(Aa U))<|vKB<|vA<|vr 1 (ix ↑t ↑(Aa U) (nsD U≠[])) ?_ ⟨(by omega),⟨(by omega),(by exact zX)⟩⟩;refine vp 25 t (nsD U)<|vr 1 (0<Aa (Ag t<|nsD U))<|vs 26 (AJ (Ag t<|nsD U) Uk) (iD v) (hd:=by simp(disch:=omega) only[zAi,hd])<|veT<|zB<|vd [0,1,2,3,4,5,6,7,9,12,13,14,15,16,17,18,19,21,8,10,11,24,20,22,23,25]<|vw 8 [] [(4,Ab)] (decide ((i:Int)<↑(Aa A))=Ab/\ix ↑i ↑(Aa A) (nsD A≠[])) (vp 34 i (nsD A)<|vrT 6 ?_) ⟨(by exact decide_eq_true (by omega)),⟨(by omega),⟨(by omega),(by exact zX)⟩⟩⟩;refine vspD 43 ((k:Int)<↑(Aa B)) (λhc=>?_)<|λhc=>?_;refine vr 3 (ix ↑k ↑(Aa B) (nsD B≠[])) (vp 46 k (nsD B)<|vr 2 (0<Aa (Ag i<|nsD A))<|vs 35 (AJ (Ag i<|nsD A) Uk) (iD v) (hd:=by simp(disch:=omega) only[zAi,p2])<|vr 4 (True/\0<Aa (Ag k<|nsD B))<|vs 47 (AJ (Ag k<|nsD B) Uk) (iD ↑(Af B k 0)) (hd:=by simp(disch:=omega) only[zAi])<|veT<|zB<|vAe<|vEt ((v:Int)) ((v:Int))<|vA ?_) ⟨(by omega),⟨(by omega),(by exact zX)⟩⟩;refine vr 5 (ix ↑i ↑(Aa A) (zN x≠[])/\3<=Aa (Ag (i*3)<|zN x)) (vs 56 (Ar<|Am 3<|Ag (i*3)<|zN x) (Ar<|vaC<|Af x i Ak) (hd:=by simp(disch:=omega) only[zDs]) ?_) ⟨⟨(by omega),⟨(by omega),(by exact zGz _)⟩⟩,(by exact zFw _ _)⟩;refine vewh [] [] (((3=3/\3<=3/\True)/\0<3/\3=3/\3<=16777216/\1<=9223372036854775807)/\AV (vaB l)=Ab/\Aa (Az<|vaB l)=t*3/\t*3=t*3/\AM (vaB l)=107/\AN (vaB l)=3/\3=3/\0<3/\0<32/\107=107/\(t+1)*32<=140737488355328/\3=3/\AK (Ax<|vaB l)=Ac/\(Ac=Ac\/AL (Ax<|vaB l)=Ab)) ⟨⟨⟨(by kernel_rfl),⟨(by omega),trivial⟩⟩,(by omega)⟩,?_⟩ ?_;rotate_left;refine zA rfl<|ve (i6 (↑i+1))<|vAe<|vEf ((↑(Af B k 0):Int)) ((v:Int))<|zJ<|zD<|vN<|zA rfl<|vr 2 (i6 (↑t+1))<|vnil<|zC ?_;rotate_left;refine vr 5 (0<Aa (Ag i<|nsD A))<|vs 35 (AJ (Ag i<|nsD A) Uk) (iD v) (hd:=by simp(disch:=omega) only[zAi,p2])<|veT<|zB<|vAe<|vEt ((v:Int)) ((v:Int))<|vA<|vr 5 (ix ↑i ↑(Aa A) (zN x≠[])/\3<=Aa (Ag (i*3)<|zN x)) (vs 56 (Ar<|Am 3<|Ag (i*3)<|zN x) (Ar<|vaC<|Af x i Ak) (hd:=by simp(disch:=omega) only[zDs]) ?_) ⟨⟨(by omega),⟨(by omega),(by exact zGz _)⟩⟩,(by exact zFw _ _)⟩;refine vewh [] [] (((3=3/\3<=3/\True)/\0<3/\3=3/\3<=16777216/\1<=9223372036854775807)/\AV (vaB l)=Ab/\Aa (Az<|vaB l)=t*3/\t*3=t*3/\AM (vaB l)=107/\AN (vaB l)=3/\3=3/\0<3/\0<32/\107=107/\(t+1)*32<=140737488355328/\3=3/\AK (Ax<|vaB l)=Ac/\(Ac=Ac\/AL (Ax<|vaB l)=Ab)) ⟨⟨⟨(by kernel_rfl),⟨(by omega),trivial⟩⟩,(by omega)⟩,?_⟩ ?_;rotate_left;refine zA rfl<|ve (i6 (↑i+1))<|vAe<|vf<|zJ<|zD<|vN<|zA rfl<|vr 2 (i6 (↑t+1))<|vnil<|zC ?_;rotate_left
   all_goals first|exact zT5 l t hll (by omega)|skip
   all_goals first|(exfalso;omega)|skip
   all_goals first|(exfalso;exact q1 (by omega) (by assumption))|skip
   refine⟨t+1,l++[x.getD i Ak],⟨by omega,hm.symm⟩,by omega,?_⟩;rw[zHq];refine wk 12 (iD ↑(i+1)) (iD (↑(cntL A (bdU U (t+1))):Int)) (by(simp;omega)) (wk 13 (iD ↑k) (iD (↑(cntL B (bdU U (t+1))):Int)) (by(simp;omega)) (vk 1));refine⟨t+1,l++[x.getD i Ak],⟨by omega,hm.symm⟩,by omega,?_⟩;rw[zHq];refine wk 12 (iD ↑(i+1)) (iD (↑(cntL A (bdU U (t+1))):Int)) (by(simp;omega)) (wk 13 (iD ↑k) (iD (↑(cntL B (bdU U (t+1))):Int)) (by(simp;omega)) (vk 1))
  have p1:=cntL_no ha;have hb:=hk.resolve_left ha;obtain⟨q1,q2⟩:=zTv hB.1 hb;rw[sgB _ ha hb]at hm;rw[if_neg ha,Nat.add_zero]at hs;rw[if_pos hb]at hs';generalize bdU U t=v at*;generalize cntL A v=i at*;generalize cntL B v=k at*;focus
   refine vAu<|zB<|vT ((t:Int)<↑(Aa U))<|vKB<|vA<|vr 1 (ix ↑t ↑(Aa U) (nsD U≠[])) ?_ ⟨(by omega),⟨(by omega),(by exact zX)⟩⟩;refine vp 25 t (nsD U)<|vr 1 (0<Aa (Ag t<|nsD U))<|vs 26 (AJ (Ag t<|nsD U) Uk) (iD v) (hd:=by simp(disch:=omega) only[zAi,hd])<|veT<|zB<|vd [0,1,2,3,4,5,6,7,9,12,13,14,15,16,17,18,19,21,8,10,11,24,20,22,23,25]<|vrT 5<|vspD 31 ((i:Int)<↑(Aa A)) (λhc=>?_)<|λhc=>?_;refine vr 3 (ix ↑i ↑(Aa A) (nsD A≠[])) (vp 34 i (nsD A)<|vw 9 [] [(16,Ab)] (decide ((k:Int)<↑(Aa B))=Ab/\ix ↑k ↑(Aa B) (nsD B≠[])) (vp 46 k (nsD B)<|vr 2 (0<Aa (Ag i<|nsD A))<|vs 35 (AJ (Ag i<|nsD A) Uk) (iD ↑(Af A i 0)) (hd:=by simp(disch:=omega) only[zAi])<|vr 4 (True/\0<Aa (Ag k<|nsD B))<|vs 47 (AJ (Ag k<|nsD B) Uk) (iD v) (hd:=by simp(disch:=omega) only[zAi,q2])<|veT<|zB<|vAe<|vEf ((↑(Af A i 0):Int)) ((v:Int)) ?_) ⟨(by exact decide_eq_true (by omega)),⟨(by omega),⟨(by omega),(by exact zX)⟩⟩⟩) ⟨(by omega),⟨(by omega),(by exact zX)⟩⟩;refine zA rfl<|vr 5 (ix ↑k ↑(Aa B) (zN y≠[])/\3<=Aa (Ag (k*3)<|zN y)) (vs 65 (Ar<|Am 3<|Ag (k*3)<|zN y) (Ar<|vaC<|Af y k Ak) (hd:=by simp(disch:=omega) only[zDs]) ?_) ⟨⟨(by omega),⟨(by omega),(by exact zGz _)⟩⟩,(by exact zFw _ _)⟩;refine vewh [] [] (((3=3/\3<=3/\True)/\0<3/\3=3/\3<=16777216/\1<=9223372036854775807)/\AV (vaB l)=Ab/\Aa (Az<|vaB l)=t*3/\t*3=t*3/\AM (vaB l)=107/\AN (vaB l)=3/\3=3/\0<3/\0<32/\107=107/\(t+1)*32<=140737488355328/\3=3/\AK (Ax<|vaB l)=Ac/\(Ac=Ac\/AL (Ax<|vaB l)=Ab)) ⟨⟨⟨(by kernel_rfl),⟨(by omega),trivial⟩⟩,(by omega)⟩,?_⟩ ?_;rotate_left;refine vAe<|vEt ((v:Int)) ((v:Int))<|zA rfl<|vr 3 (i6 (↑k+1))<|vnil<|zD<|vN<|zA rfl<|vr 2 (i6 (↑t+1))<|vnil<|zC ?_;rotate_left;refine vw 12 [] [(16,Ab)] (decide ((k:Int)<↑(Aa B))=Ab/\ix ↑k ↑(Aa B) (nsD B≠[])) (vp 46 k (nsD B)<|vr 6 (0<Aa (Ag k<|nsD B))<|vs 47 (AJ (Ag k<|nsD B) Uk) (iD v) (hd:=by simp(disch:=omega) only[zAi,q2])<|veT<|zB<|vAe<|vf<|zA rfl<|vr 5 (ix ↑k ↑(Aa B) (zN y≠[])/\3<=Aa (Ag (k*3)<|zN y)) (vs 65 (Ar<|Am 3<|Ag (k*3)<|zN y) (Ar<|vaC<|Af y k Ak) (hd:=by simp(disch:=omega) only[zDs]) ?_) ⟨⟨(by omega),⟨(by omega),(by exact zGz _)⟩⟩,(by exact zFw _ _)⟩) ⟨(by exact decide_eq_true (by omega)),⟨(by omega),⟨(by omega),(by exact zX)⟩⟩⟩;refine vewh [] [] (((3=3/\3<=3/\True)/\0<3/\3=3/\3<=16777216/\1<=9223372036854775807)/\AV (vaB l)=Ab/\Aa (Az<|vaB l)=t*3/\t*3=t*3/\AM (vaB l)=107/\AN (vaB l)=3/\3=3/\0<3/\0<32/\107=107/\(t+1)*32<=140737488355328/\3=3/\AK (Ax<|vaB l)=Ac/\(Ac=Ac\/AL (Ax<|vaB l)=Ab)) ⟨⟨⟨(by kernel_rfl),⟨(by omega),trivial⟩⟩,(by omega)⟩,?_⟩ ?_;rotate_left;refine vAe<|vEt ((v:Int)) ((v:Int))<|zA rfl<|vr 3 (i6 (↑k+1))<|vnil<|zD<|vN<|zA rfl<|vr 2 (i6 (↑t+1))<|vnil<|zC ?_;rotate_left
  all_goals first|exact zT5 l t hll (by omega)|skip
  all_goals first|(exfalso;omega)|skip
  all_goals first|(exfalso;exact p1 (by omega) (by assumption))|skip
  refine⟨t+1,l++[y.getD k Ak],⟨by omega,hm.symm⟩,by omega,?_⟩;rw[zHq];refine wk 12 (iD ↑i) (iD (↑(cntL A (bdU U (t+1))):Int)) (by(simp;omega)) (wk 13 (iD ↑(k+1)) (iD (↑(cntL B (bdU U (t+1))):Int)) (by(simp;omega)) (vk 1));refine⟨t+1,l++[y.getD k Ak],⟨by omega,hm.symm⟩,by omega,?_⟩;rw[zHq];refine wk 12 (iD ↑i) (iD (↑(cntL A (bdU U (t+1))):Int)) (by(simp;omega)) (wk 13 (iD ↑(k+1)) (iD (↑(cntL B (bdU U (t+1))):Int)) (by(simp;omega)) (vk 1))
 refine vAu<|zB<|vF ((t:Int)<(Aa U:Int))<|vZ2<|vAe<|zK<|zBr (True) (Ae (Am (t*3)<|Ag 0<|Az<|vaB l) t) (Ae (Am (t*3)<|zN l) t) (.inr rfl) (by simp(disch:=omega) only[AY]) ?_;have e:t=U.length:=by omega
 subst e;rw[BF]at h2;rw[zQn _ _ (by rw[h2,AG]),h2]
abbrev fcC(f:Fn):List D:=[.row (nsD f.1) f.1.length, .row (rwsD f.2) f.2.length, .row (vlsD f.2) f.2.length]
theorem zTj(f:Fn):(fcC f).length=3:=rfl
structure FV(f:Fn):Prop where
 asc:Asc f.1
 len:∀p∈f.2,p.1.length=f.1.length
 vs:∀p∈f.2,∀x∈p.1,Vs x
 sz:f.2.length<=1000000
 sm:∀p∈f.2,Sm p.2
 nd:Ndk f.2
theorem getD_fst(l:List (Rw×Nat)){k:Nat}(h:k<l.length):(l.map (·.1)).getD k []=(l.getD k Ak).1:=by simp[Au,h]
theorem getD_snd(l:List (Rw×Nat)){k:Nat}(h:k<l.length):(l.map (·.2)).getD k 0=(l.getD k Ak).2:=by simp[Au,h]
abbrev fltB(l:List D):Bk:=⟨l,203,2,Ab,Ac, .plain⟩
noncomputable def Tm:Par:=⟨λ_=>Ac,zL4 Al,λ_=>Ac,hvOf Al,λt=>shOf Al t||t==39⟩
theorem Tm_ok:zCe Al Tm:=λt n f h v W=>zGl Al (λ_=>Ac) (λ_=>Ac) t n f h v W
theorem gty:∃inf,GTy Al Tm 206 9 39 3 inf:=by
 refine⟨(Al.info? 3).getD Ak,by kernel_rfl,by kernel_rfl,by kernel_rfl,by kernel_rfl,by kernel_rfl,by kernel_rfl,by kernel_rfl,by kernel_rfl,by kernel_rfl,by kernel_rfl⟩
set_option maxHeartbeats 8000000 in
theorem zXb(f g:Fn)(os:List Fn)(hf:FV f)(hg:FV g)(ho:∀o∈os,FV o)(hl:os.length<=1000)(hsz:f.2.length*g.2.length<=1000000):
  Pure Al 49 [cntD,fcD f.1 f.2,fcD g.1 g.2, .row (os.flatMap fcC) os.length] [] (fcD (un f.1 g.1) (srtL ((zBd (· *·) f.1 f.2 g.1 g.2).filter λp=>os.all λo=>okO (un f.1 g.1) p.1 (faN o)))):=by
 obtain⟨A,la⟩:=f;obtain⟨B,lb⟩:=g;obtain⟨hA,al,av,as',am,nda⟩:=hf;obtain⟨hB,bl,bv,bs',bm,ndb⟩:=hg;simp only at hA al av as' am nda hB bl bv bs' bm ndb hsz⊢;have nA:=zBc hA;have nB:=zBc hB;have hmA:=zA3 hA.2;have hmB:=zA3 hB.2;have hmo:=zH1 hmA hmB;have hma:=zMt (b:=msk B) hmA;have sA:=zNm A _ rfl (by omega) hA.2 (rwsD la) (vlsD la) la.length la.length;have sB:=zNm B _ rfl (by omega) hB.2 (rwsD lb) (vlsD lb) lb.length lb.length;have hU:=zQm A B;have hmu:=zY7 hA.2 hB.2;have hmem:=zE0 (msk A|||msk B) hmo;rw[hmu,zEf hU]at hmem;have nU:=zBc hU;rw[hmu]at hmo;have cA:=zB0 A A _ rfl hA.2 (msk A&&&msk B) hma;have cB:=zB0 B B _ rfl hB.2 (msk A&&&msk B) hma;obtain⟨U,eU⟩:∃U,U=un A B:=⟨_,rfl⟩;rw[<-eU]at hU hmu hmem nU hmo⊢;refine zH (T:=Tm) Tm_ok mixed Tryz.func49 rfl<|vAu<|zB<|vd [0,1,2,3,4,5]<|vr 1 (3<=3)<|vc (sA)<|vr 1 (3<=3)<|vc (sB)<|vrT 1<|vs 30 (Ay<|AI AB<|A1 AB (↑(AH (Ap 32 (↑(msk A):Int)|||Ap 32 (↑(msk B):Int))):Int)) (dig<|msk U) (hd:=by simp(disch:=omega) only[zKu,zA1,hmu])<|veT<|vA<|vrT 1<|vc (hmem)<|ve (((1=1/\1<=3/\True)/\Ab=Ab)/\Ac=Ac/\Ab=Ab/\3=3/\3<=3)<|vAe<|zB<|vAe<|zF<|zQ (λ(i:Nat)=>fr 147 [(0,cntD),(5,Ai 0 0),(6,Ai 1 0),(8,Ai 2 0),(9,dig<|msk U),(10,Ai 3 0),(11,Ah 4 0 i (i*2) Ab),(34,Ae (As fcC os)<|Aa os),(35,iD (Aa os:Int)),(36,iD (i:Int))]) (λ(i:Nat)=>[fB1 (.row (nsD A) A.length) (.row (rwsD la) la.length)<|.row (vlsD la) la.length,fB1 (.row (nsD B) B.length) (.row (rwsD lb) lb.length)<|.row (vlsD lb) lb.length,fB1 nl nl nl,fB1 (.row (nsD U) U.length) nl nl,fltB<|((os.take i).map (fltF U)).flatMap flC]) (λi=>os.length-i) (λ(i:Nat)=>i<=os.length) 0 ?_ ?_ ?_
 ·omega
 ·refine vk 4
 rintro i h1;rcases AF i os.length with h2|h2
 ·have hom:os.getD i Ak∈os:=by rw[Au,AC h2];exact AZ h2
  obtain⟨hO,ol,ov,os2,_,_⟩:=ho _ hom;have hg2:=zA9 zTj os i h2;have hle:=zB5 zTj os i h2;have hne:=zCb zTj (by decide) os;have he:((os.take (i+1)).map (fltF U)).flatMap flC=((os.take i).map (fltF U)).flatMap flC++flC (fltF U (os.getD i Ak)):=by
   rw[zBl os i h2];simp
  have hlb:(((os.take i).map (fltF U)).flatMap flC).length=i*2:=by rw[zCc zFq];simp;omega
  have nO:=zBc hO;generalize os.getD i Ak=o at*;have hfo:=zXj o.1 U _ _ o.2.length rfl rfl nO nU hO.2 hU.2 (o.2.map (·.1)) _ (by simp) os2 (λr hr=>by
   obtain⟨p,hp,rfl⟩:=AD.1 hr;exact ol p hp) (λr hr=>by
   obtain⟨p,hp,rfl⟩:=AD.1 hr;exact ov p hp) (vlsD o.2) (msk U) hmo
  refine vAu<|zB<|vT ((i:Int)<↑(Aa os))<|vKB<|vA<|vr 2 (ix ↑i ↑(Aa os) (As fcC os≠[])/\3<=Aa (Ag (i*3)<|As fcC os))<|vs 39 (Ar<|Am 3<|Ag (i*3)<|As fcC os) (Ar<|fcC o) (hd:=by simp(disch:=omega) only[hg2])<|ve (Ac=Ac/\Ab=Ab/\3=3/\3<=3)<|zA rfl<|vr 5 (3<=3/\True/\0<3)<|vc hfo<|vr 3 (((2=2/\2<=2/\True)/\0<2/\2=2/\2<=16777216/\1<=9223372036854775807)/\AV (fltB<|As flC<|Ad (fltF U)<|Am i os)=Ab/\Aa (Az<|fltB<|As flC<|Ad (fltF U)<|Am i os)=i*2/\i*2=i*2/\AM (fltB<|As flC<|Ad (fltF U)<|Am i os)=203/\AN (fltB<|As flC<|Ad (fltF U)<|Am i os)=2/\2=2/\0<2/\0<32/\203=203/\(i+1)*32<=140737488355328/\2=2/\AK (Ax<|fltB<|As flC<|Ad (fltF U)<|Am i os)=Ac/\(Ac=Ac\/AL (Ax<|fltB<|As flC<|Ad (fltF U)<|Am i os)=Ab))<|vnil<|zD<|vN<|zA rfl<|vr 2 (i6 (↑i+1))<|vnil<|zC<|⟨i+1,by omega,by omega,?_⟩;rw[he];refine vk 5
 rw[AA h2];obtain rfl:i=os.length:=by omega
 obtain⟨c1,ec1⟩:∃c,c=zAu (λv=>(msk A&&&msk B).testBit v) A:=⟨_,rfl⟩;obtain⟨c2,ec2⟩:∃c,c=zAu (λv=>(msk A&&&msk B).testBit v) B:=⟨_,rfl⟩;rw[<-ec1]at cA;rw[<-ec2]at cB;have hl1:∀c∈c1,c<A.length:=λc h=>by rw[ec1]at h;exact(zDf.1 h).1
 have hl2:∀c∈c2,c<B.length:=λc h=>by rw[ec2]at h;exact(zDf.1 h).1
 have hn1:c1.length<=32:=by rw[ec1];exact AX (zD7 _ _) nA
 have hn2:c2.length<=32:=by rw[ec2];exact AX (zD7 _ _) nB
 refine vAu<|zB<|vF ((Aa os:Int)<↑(Aa os))<|vZ2<|zB<|vd [0,1,2,3,4,5]<|vr 1 (3<=3)<|vc sA<|vr 1 (3<=3)<|vc sB<|vrT 1<|vs 53 (Ay<|AI AB<|A1 AB (↑(AH (Ap 32 (↑(msk A):Int)&&&Ap 32 (↑(msk B):Int))):Int)) (dig (msk A&&&msk B)) (hd:=by simp(disch:=omega) only[zNy,zA1])<|veT<|zB<|vd [0,2,4,6,1,3,5,7,8,9]<|vr 5 (True/\True/\0<3)<|vc cA<|vr 1 (0<3)<|vc cB<|veT<|vAe<|zB<|vA<|ve (True/\0<2)<|zF ?_;obtain⟨inf,ty⟩:=gty;obtain⟨Lb,eLb⟩:∃L:List Rw,L=(lb.map (·.1)).map λr=>zP r c2:=⟨_,rfl⟩;have hLb:Lb.length=lb.length:=by rw[eLb];simp
 obtain⟨base,ebase⟩:∃base:List Bk,base=[fB1 (.row (nsD A) A.length) (.row (rwsD la) la.length) (.row (vlsD la) la.length),fB1 (.row (nsD B) B.length) (.row (rwsD lb) lb.length) (.row (vlsD lb) lb.length),fB1 nl nl nl,fB1 (.row (nsD U) U.length) nl nl,fltB ((os.map (fltF U)).flatMap flC)]:=⟨_,rfl⟩;have hbb:bBL 5 base=true:=by rw[ebase];rfl
 refine zAo (λ(k:Nat)(st:List Bk)(ns:List Nat)=>fr 147 [(0,cntD),(5,Ai 0 0),(6,Ai 1 0),(8,Ai 2 0),(10,Ai 3 0),(11,Ah 4 0 (Aa os) (Aa os*2) Ab),(15,(q4_ c1)),(16,(q4_ c2)),(17,Ba 5),(64,(q6_ lb)),(65,iD<|Aa lb),(66,iD k)]) (λ(k:Nat)(st:List Bk)(ns:List Nat)=>st) (λk st ns=>lb.length-k) (λ(k:Nat)(st:List Bk)(ns:List Nat)=>k<=lb.length/\Grp 5 206 3 (Lb.take k) base st ns) 0 [fB1 (.row (nsD A) A.length) (.row (rwsD la) la.length)<|.row (vlsD la) la.length,fB1 (.row (nsD B) B.length) (.row (rwsD lb) lb.length)<|.row (vlsD lb) lb.length,fB1 nl nl nl,fB1 (.row (nsD U) U.length) nl nl,fltB<|(os.map (fltF U)).flatMap flC,⟨[],206,0,Ac,Ac,.map []⟩] [] ?_ ?_ ?_
 ·exact⟨by omega,⟨by rw[ebase];rfl,rfl,rfl,CB,λj k r h=>by simp at h⟩⟩
 ·refine vk 6
 rintro k st ns ⟨h3,hG⟩;rcases AF k lb.length with h4|h4
 ·have hne:rwsD lb≠[]:=zX (h:=by simp;omega);have hrow:(lb.map (·.1)).getD k []∈lb.map (·.1):=by
   rw[Au,AC (by simpa using h4)];exact AZ _
  obtain⟨p,hp,he⟩:=AD.1 hrow;have hlen2:=bl p hp;have hvs:=bv p hp;rw[he]at hlen2 hvs;have hx1:=zY (lb.map (·.1)) k (by simpa using h4);have hts:Lb.take (k+1)=Lb.take k++[zP ((lb.map (·.1)).getD k []) c2]:=by
   rw[Bh (by omega)];congr 1;simp only[eLb,List.getElem_map,Au,Cd,AC h4,BX,BW]
  generalize (lb.map (·.1)).getD k []=row at*;have hk:=zJw row c2 _ _ rfl rfl (by rw[hlen2];exact hl2) hvs;refine vA<|st_eE [] [(67,bD<|decide ((k:Int)<↑(Aa lb)))] ?_;refine zB<|vT ((k:Int)<↑(Aa lb))<|vKB<|vA<|zC1 2 [] [] (ix ↑k ↑(Aa lb) (rwsD lb≠[])) [(68,iD k),(69,D.ptr<|Ag (A5 (k:Int)*1)<|rwsD lb)] ⟨(by omega),⟨(by omega),(by assumption)⟩⟩ ?_;refine zJj 69 (D.ptr<|Ag (A5 (k:Int)*1)<|rwsD lb) (D.ptr<|Ag k<|rwsD lb) (by kernel_rfl) (by simp(disch:=omega) only[Br,AW]) (by kernel_rfl) ?_;refine zC1 1 [] [] (0<Aa (Ag k<|rwsD lb)) [(70,AJ (Ag k<|rwsD lb) Uk)] (by(simp;omega)) ?_;refine zJj 70 (AJ (Ag k<|rwsD lb) Uk) (rowV row) (by kernel_rfl) (by simp(disch:=omega) only[hx1]) (by kernel_rfl) ?_;refine st_eE [67,68,69,70] [(18,iD k),(19,(q3_ row))] ?_;refine vA<|st_rR 2 [(71,(q3_ row)),(72,(q4_ c2))] ?_;refine st_cC [(q3_ row),(q4_ c2)] (by exact hk) ?_;refine st_rR 1 [(20,Ay<|Aw<|bs<|idR<|zP row c2)] ?_;refine zG4 ?_ (by kernel_rfl);refine zC (zLz λs0 hs0=>?_);refine zE<|zA rfl<|zKm (.mref 5) rfl rfl rfl (by rw[hs0];kernel_rfl)<|zKm (.val<|kyv<|zP row c2) rfl rfl rfl (by rw[hs0];kernel_rfl)<|zKm (.mref 5) rfl rfl rfl (by rw[hs0];kernel_rfl)<|zKm (.val<|kyv<|zP row c2) rfl rfl rfl (by rw[hs0];kernel_rfl) ?_;refine zN9 (m:=5) (L:=Lb.take k) (r:=zP row c2) (i:=k) (base:=base) (ns:=ns) (a1:=76) (a2:=77) (a3:=18) (b1:=74) (b2:=75) (s1:=78) (s2:=79) (s3:=80) (s4:=81) ty (λ_ _=>rfl) (by simp;omega) (by omega) rfl rfl rfl rfl rfl rfl rfl rfl rfl rfl rfl rfl rfl rfl rfl (by rw[hs0];kernel_rfl) (by decide) (by rw[hs0];kernel_rfl) (by rw[hs0];kernel_rfl) (by rw[hs0];kernel_rfl) (by rw[hs0];kernel_rfl) (by rw[hs0];kernel_rfl) (by rw[hs0];kernel_rfl) hbb hG ?_;intro st' ns' e1 e3 e4 hG';refine zG4 ?_ (by kernel_rfl);refine zD<|zC<|zL0 [74,75,76,77,78,79,80,81] (sl':=s0) (by rw[hs0];kernel_rfl) ?_;subst hs0;refine zA rfl<|zC1 2 [] [] (i6 (↑k+1)) [(66,iD ↑(k+1)),(82,iD ↑(k+1))] (by omega) ?_;refine zG4 ?_ (by kernel_rfl);refine zC<|⟨k+1,st',ns',⟨by omega,by rw[hts];exact hG'⟩,by omega,?_⟩;refine vkp [0,5,6,8,10,11,15,16,17,64,65,66]
 rw[AA (by omega)]at hG;subst ebase;refine vA<|st_eE [] [(67,bD<|decide ((k:Int)<↑(Aa lb)))] ?_;refine zB<|vF ((k:Int)<↑(Aa lb))<|vY2<|zC ?_;have hfl:=zBs zFq (os.map (fltF U)) os.length (by simp);refine zAw ((zN4 (m:=5) (s:=17) (λ_ _=>rfl) (by kernel_rfl) (by kernel_rfl) hbb hG).trans<|((Bb (j:=3) (i:=1) (rowB []) rfl rfl rfl rfl).trans (Bb (j:=3) (i:=2) (natB []) rfl rfl rfl rfl)).trans<|Weak.osr (s:=11) (k:=4) (off:=0) (n:=os.length) (m:=os.length*2) (wh:=Ab) (cs:=(os.map (fltF U)).flatMap flC) (by kernel_rfl) (show Aj (Ae ((((os.map (fltF U)).flatMap flC).drop 0).take (os.length*2)) os.length,[4])=_ by rw[AY,hfl])) ?_;refine zB<|vAs<|ve (True/\0<2)<|zF ?_;clear hG h3 h4;obtain⟨ok,eok⟩:∃ok:Rw->Bool,ok=λs=>os.all λo=>okO U s (faN o):=⟨_,rfl⟩;have hpf:((zBd (· *·) A la B lb).filter λp=>os.all λo=>okO U p.1 (faN o))=la.flatMap λp=>zF9 A B ok p (selB A B lb p):=by
  rw[eok];exact zNa A B lb (λs=>os.all λo=>okO U s (faN o)) la
 rw[hpf];refine zA2 (λ(i:Nat)(O:List (Rw×Nat))=>fr 147 [(0,cntD),(5,Ai 0 0),(6,Ai 1 0),(8,Ai 2 0),(10,Ai 3 0),(11,D.osr 4 0 (Aa os) (Aa os*2) Ab<|As flC<|Ad (fltF U) os),(15,(q4_ c1)),(17,D.mfz (Ad kyv<|allK Lb)<|zM1 Lb),(84,(q6_ la)),(85,iD<|Aa la),(86,iD i)]) (λ(i:Nat)(O:List (Rw×Nat))=>[fB1 (.row (nsD A) A.length) (.row (rwsD la) la.length)<|.row (vlsD la) la.length,fB1 (.row (nsD B) B.length) (.row (rwsD lb) lb.length)<|.row (vlsD lb) lb.length,fB1 nl nl nl,fB1 (.row (nsD U) U.length) (.osl 5 0 O.length O.length Ab)<|.osl 6 0 O.length O.length Ab,⟨(os.map (fltF U)).flatMap flC,203,2,Ab,Ab,.plain⟩,rowB<|rwsD O,natB<|vlsD O]) (λi O=>la.length-i) (λ(i:Nat)(O:List (Rw×Nat))=>i<=la.length/\O=(la.take i).flatMap λp=>zF9 A B ok p (selB A B lb p)) 0 [] ?_ ?_ ?_
 ·exact⟨by omega,by simp⟩
 ·refine vk 7
 rintro i O ⟨h3,hO⟩;rcases AF i la.length with h4|h4
 ·have hne:rwsD la≠[]:=zX (h:=by simp;omega);have hne2:vlsD la≠[]:=zX (h:=by simp;omega);have hx1:=zY (la.map (·.1)) i (by simpa using h4);have hx2:=zD9 (la.map (·.2)) i (by simpa using h4);have hpm:la.getD i Ak∈la:=by rw[Au,AC h4];exact AZ h4
  have hr1:(la.map (·.1)).getD i []=(la.getD i Ak).1:=by simp[Au,h4]
  have hr2:(la.map (·.2)).getD i 0=(la.getD i Ak).2:=by simp[Au,h4]
  have hfs:=zXi (A:=A) (B:=B) (lb:=lb) (ok:=ok) la i h4;have hOl:O.length<=i*lb.length:=by rw[hO];exact zRr la i
  have hmul:(i+1)*lb.length<=la.length*lb.length:=Nat.mul_le_mul_right _ h4;rw[B8]at hmul;rw[<-hO]at hfs;have hlen2:=al _ hpm;have hvs:=av _ hpm;have hsm:=am _ hpm;rw[hr1]at hx1;rw[hr2]at hx2;generalize la.getD i Ak=p at*;have hk:=zJw p.1 c1 _ _ rfl rfl (by rw[hlen2];exact hl1) hvs;have hlk:=zZg Lb (zP p.1 c1);have hps:=pos_sel (lb:=lb) hA hB p;rw[<-ec1,<-ec2,<-eLb]at hps;by_cases hin:zP p.1 c1∈Lb
  ·rw [if_pos hin]at hlk;have hposk:∀k∈posL Lb (zP p.1 c1),k<lb.length:=λk hk=>by rw[<-hLb];exact zYt hk
   generalize posL Lb (zP p.1 c1)=pos at*;focus
    refine vAu (zB (vT ((i:Int)<↑(Aa la)) (vKB (vA (vr 2 (ix ↑i ↑(Aa la) (rwsD la≠[])) (vp 89 i (rwsD la) (vr 1 (0<Aa (Ag i (rwsD la))) (vsh 90 hx1 (veT (vA (vrT 3 (vc hk (vwh 1 [] [] (zS (AO (AP AQ "string" 1 16 Ab 8 8 (Aj (Aw (AR #[]))) Ab #[])) (Aw (bs (idR (zP (AE p) c1))))=Ab/\Bi (Ad kyv (allK Lb)) (zS (AO (AP AQ "string" 1 16 Ab 8 8 (Aj (Aw (AR #[]))) Ab #[])))=Ab) ?_ ?_)))))))))))));rotate_left;refine vsh 95 hlk (veT (zF ?_));rotate_left
   ·exact⟨rfl,zBt _⟩
   have hsl:(selB A B lb p).length=pos.length:=by rw[<-hps,AG]
   have hsb:(selB A B lb p).length<=lb.length:=A9 _ _;have hts:=λt h=>zXa (A:=A) (B:=B) (ok:=ok) p (selB A B lb p) t h;refine zA2 (λ(t:Nat)(R:List (Rw×Nat))=>fr 147 [(0,cntD),(5,Ai 0 0),(6,Ai 1 0),(8,Ai 2 0),(10,Ai 3 0),(11,D.osr 4 0 (Aa os) (Aa os*2) Ab<|As flC<|Ad (fltF U) os),(15,(q4_ c1)),(17,D.mfz (Ad kyv<|allK Lb)<|zM1 Lb),(21,iD i),(22,Ae (zN<|AE p)<|Aa<|AE p),(84,(q6_ la)),(85,iD<|Aa la),(86,iD i),(95,Ae (nsD pos)<|Aa pos),(96,iD<|Aa pos),(97,iD t)]) (λ(t:Nat)(R:List (Rw×Nat))=>[fB1 (.row (nsD A) A.length) (.row (rwsD la) la.length)<|.row (vlsD la) la.length,fB1 (.row (nsD B) B.length) (.row (rwsD lb) lb.length)<|.row (vlsD lb) lb.length,fB1 nl nl nl,fB1 (.row (nsD U) U.length) (.osl 5 0 R.length R.length Ab)<|.osl 6 0 R.length R.length Ab,⟨(os.map (fltF U)).flatMap flC,203,2,Ab,Ab,.plain⟩,rowB<|rwsD R,natB<|vlsD R]) (λt R=>pos.length-t) (λ(t:Nat)(R:List (Rw×Nat))=>t<=pos.length/\R=O++zF9 A B ok p ((selB A B lb p).take t)) 0 O ?_ ?_ ?_
   ·exact⟨by omega,by simp[zF9]⟩
   ·refine vk 7
   rintro t R ⟨h5,hR⟩;have hRl:R.length<=O.length+t:=by
    have h6:=zQ7 (A:=A) (B:=B) (ok:=ok) p ((selB A B lb p).take t);rw[hR,A8];simp only[B_]at h6;omega
   rcases AF t pos.length with h6|h6
   ·have hne3:rwsD lb≠[]:=zX (h:=by simp;omega);have hne4:vlsD lb≠[]:=zX (h:=by simp;omega);have hkm:=hposk _ (zBv pos t h6);have hsg:(selB A B lb p).getD t Ak=lb.getD (pos.getD t 0) default:=by
     rw[<-hps];simp[Au,h6]
    have hqm:lb.getD (pos.getD t 0) Ak∈lb:=by rw[Au,AC hkm];exact AZ hkm
    have hy1:=zY (lb.map (·.1)) (pos.getD t 0) (by simpa using hkm);have hy2:=zD9 (lb.map (·.2)) (pos.getD t 0) (by simpa using hkm);have hr3:=getD_fst lb hkm;have hr4:=getD_snd lb hkm;have hp1:0<((rwsD lb).drop (pos.getD t 0)).length:=by rw[BV,AG,AG];omega
    have hp2:0<((vlsD lb).drop (pos.getD t 0)).length:=by rw[BV,AG,AG];omega
    have ht1:=hts t (by omega);rw[hsg]at ht1;rw[hr3]at hy1;rw[hr4]at hy2;have hql:=bl _ hqm;have hqv:=bv _ hqm;have hqs:=bm _ hqm;have hz:=zAi pos t h6;generalize lb.getD (pos.getD t 0) Ak=q at*;have hmg:Pure Al 95 [.row (nsD U) U.length, .row (nsD A) A.length, .row (zN p.1) p.1.length, .row (nsD B) B.length, .row (zN q.1) q.1.length] [] (.row (zN (mg A p.1 B q.1)) U.length):=by
     have h:=zS1 A B p.1 q.1 _ _ _ rfl rfl rfl hlen2 hql hA hB nA nB (by rw[<-eU];exact nU);rw[<-eU]at h;rw[hlen2,hql];exact h
    have hml:(mg A p.1 B q.1).length=U.length:=by rw[mg,AG,eU]
    have hmv:∀v∈mg A p.1 B q.1,Vs v:=λv hv=>by
     obtain⟨w,_,rfl⟩:=AD.1 hv;have gv:∀(C:List Nat)(x:List Va),(∀v∈x,Vs v)->Vs (asg C x w):=λC x hx=>by
      unfold asg;rw[Au];cases e:x[C.idxOf w]? with
      |none=>exact⟨by decide,by decide,by decide⟩
      |some u=>exact hx u (BT e)
     unfold sg;split
     ·exact gv A _ hvs
     exact gv B _ hqv
    have hpa:=zPp (os.map (fltF U)) _ rfl (by simp;omega) (mg A p.1 B q.1) _ hml (by omega) hmv (λf hf=>by
     obtain⟨o,ho',rfl⟩:=AD.1 hf;exact⟨by have:=zD7 (λv=>(msk o.1&&&msk U).testBit v) U;simp only[fltF];omega,λc hc=>by rw[hml];exact(zDf.1 hc).1⟩)
    rw[AG,B5]at hpa;have hoke:(os.all ((λf=>decide (zP (mg A p.1 B q.1) f.1∈f.2))∘fltF U))=ok (mg A p.1 B q.1):=by
     rw[eok];simp only[Function.comp_def];rw[BA,Bc,Bc];constructor
     ·intro h o ho';rw[<-flt_ok hU (ho o ho').asc];exact h o ho'
     intro h o ho';rw[flt_ok hU (ho o ho').asc];exact h o ho'
    rw[hoke]at hpa;have hmu2:=cmul_c p.2 q.2 hsm hqs;focus
     refine vAu<|zB<|vT ((t:Int)<↑(Aa pos))<|vKB<|vA<|vr 1 (ix ↑t ↑(Aa pos) (nsD pos≠[])) ?_ ⟨(by omega),⟨(by omega),(by exact zX)⟩⟩;refine vp 99 t (nsD pos)<|vr 1 (0<Aa (Ag t<|nsD pos))<|vsh 100 hz<|veT<|zB<|vd [0,2,4,5,7,9,1,3,6,8,10,11,12,13]<|vr 11 (True/\True/\True/\True/\0<3/\0<3/\0<3/\0<2/\ix ↑(Af pos t 0) ↑(Aa lb) (rwsD lb≠[]))<|vp 111 (Af pos t 0) (rwsD lb)<|vr 1 (0<Aa (Ag (Af pos t 0)<|rwsD lb))<|vsh 112 hy1<|vc hmg<|veT<|vA<|vrT 2<|vc hpa<|veT<|zAa (t:=ok (mg A (AE p) B (AE q))) (by kernel_rfl) (λhc=>?_)<|λhc=>?_;refine vA<|vr 7 (True/\0<2/\((1=1/\1<=1/\True)/\0<1/\1=1/\1<=16777216/\1<=9223372036854775807)/\(AV (rowB<|rwsD R)=Ab/\Aa (Az<|rowB<|rwsD R)=Aa R*1/\Aa R=Aa R*1/\AM (rowB<|rwsD R)=110/\AN (rowB<|rwsD R)=1/\1=1/\0<1/\0<24/\110=110/\(Aa R+1)*24<=140737488355328/\1=1/\AK (Ax<|rowB<|rwsD R)=Ac/\(Ac=Ac\/AL (Ax<|rowB<|rwsD R)=Ab))/\True/\Ac=Ac/\Ab=Ab/\1=1/\2<=3)<|vb 3 (An [Ae (nsD U)<|Aa U,Ah 5 0 (Aa R+1) ((Aa R+1)*1) Ab,Ah 6 0 (Aa R) (Aa R) Ab] 90 0 Ac Ac Ao) (An [Ae (nsD U)<|Aa U,Ah 5 0 (Aa R+1) (Aa R+1) Ab,Ah 6 0 (Aa R) (Aa R) Ab] 90 0 Ac Ac Ao) (hd:=by simp(disch:=omega) only[AW])<|veT<|vd [0,2,3,5,8,10,13,14,15,1,4,6,7,9,11,12,16,17,18,19,20]<|vr 12 (True/\True/\True/\0<1/\0<1/\ix ↑i ↑(Aa la) (vlsD la≠[]))<|vp 129 i (vlsD la)<|vr 1 (0<Aa (Ag i<|vlsD la))<|vsh 130 hx2<|vr 2 (0<1/\ix ↑(Af pos t 0) ↑(Aa lb) (vlsD lb≠[]))<|vp 134 (Af pos t 0) (vlsD lb) ?_;refine vr 1 (0<Aa (Ag (Af pos t 0)<|vlsD lb))<|vsh 135 hy2<|vc hmu2<|vr 4 (((1=1/\1<=1/\True)/\0<1/\1=1/\1<=16777216/\1<=9223372036854775807)/\(Ab=Ab/\Aa (vlsD R)=Aa R*1/\Aa R=Aa R*1/\50=50/\1=1/\1=1/\0<1/\0<24/\50=50/\(Aa R+1)*24<=140737488355328/\1=1/\AK Ao=Ac/\(Ac=Ac\/AL Ao=Ab))/\True/\Ac=Ac/\Ab=Ab/\1=1/\3<=3)<|vb 3 (An [Ae (nsD U)<|Aa U,Ah 5 0 (Aa R+1) (Aa R+1) Ab,Ah 6 0 (Aa R+1) ((Aa R+1)*1) Ab] 90 0 Ac Ac Ao) (An [Ae (nsD U)<|Aa U,Ah 5 0 (Aa R+1) (Aa R+1) Ab,Ah 6 0 (Aa R+1) (Aa R+1) Ab] 90 0 Ac Ac Ao) (hd:=by simp(disch:=omega) only[AW])<|vnil<|zD<|vN<|zA rfl<|vr 2 (i6 (↑t+1))<|vnil<|zC ?_;rotate_left;refine zJ<|zD<|vN<|zA rfl<|vr 2 (i6 (↑t+1))<|vnil<|zC ?_;rotate_left
    ·rw[if_pos hc]at ht1;refine⟨t+1,R++[prQ A B p q],⟨by omega,?_⟩,by omega,?_⟩
     ·rw[ht1,<-BI,<-hR]
     rw[show rwsD (R++[prQ A B p q])=rwsD R++[.row (zN (mg A p.1 B q.1)) U.length] by rw[<-hml];simp[prQ],show vlsD (R++[prQ A B p q])=vlsD R++[natD (p.2*q.2)] by simp[prQ],A8];refine vk 7
    rw[if_neg (by simpa using hc),Bs]at ht1;refine⟨t+1,R,⟨by omega,by rw[ht1];exact hR⟩,by omega,?_⟩;refine vk 7
   rw[AA (by omega)]at hR;refine vAu<|zB<|vF ((t:Int)<↑(Aa pos))<|vY2<|zD<|vN<|zA rfl<|vr 2 (i6 (↑i+1))<|vnil<|zC<|⟨i+1,R,⟨by omega,by rw[hfs];exact hR⟩,by omega,?_⟩;refine vk 7
  rw[if_neg hin]at hlk;rw[zHz hin]at hps;focus
   refine vAu (zB (vT ((i:Int)<↑(Aa la)) (vKB (vA (vr 2 (ix ↑i ↑(Aa la) (rwsD la≠[])) (vp 89 i (rwsD la) (vr 1 (0<Aa (Ag i (rwsD la))) (vsh 90 hx1 (veT (vA (vrT 3 (vc hk (vwh 1 [] [] (zS (AO (AP AQ "string" 1 16 Ab 8 8 (Aj (Aw (AR #[]))) Ab #[])) (Aw (bs (idR (zP (AE p) c1))))=Ab/\Bi (Ad kyv (allK Lb)) (zS (AO (AP AQ "string" 1 16 Ab 8 8 (Aj (Aw (AR #[]))) Ab #[])))=Ab) ?_ ?_)))))))))))));rotate_left;refine vsh 95 hlk (veT (zF (zW (vAe (zB (vf (vY2 (zD (vN (zA rfl (vr 2 (i6 (↑i+1)) (vnil (zC ?_)))))))))))));rotate_left
  ·exact⟨rfl,zBt _⟩
  refine⟨i+1,O,⟨by omega,?_⟩,by omega,?_⟩
  ·rw[hfs,<-hps];simp[zF9]
  refine vk 7
 have hO':O=la.flatMap λp=>zF9 A B ok p (selB A B lb p):=by rw[AA (by omega)]at hO;exact hO
 rw[<-hO'];have hOl:O.length<=1000000:=by
  have h5:=zRr (A:=A) (B:=B) (lb:=lb) (ok:=ok) la la.length;rw[BF,<-hO']at h5;omega
 have hOp:O=(zBd (· *·) A la B lb).filter λp=>ok p.1:=by rw[hO',eok];exact(zNa A B lb (λs=>os.all λo=>okO U s (faN o)) la).symm
 have hnd:Ndk O:=by rw[hOp];exact zC6 ok (zDk hA hB nda ndb al bl)
 have hOr:∀p∈O,p.1.length=U.length:=λp hp=>by
  rw[hOp]at hp;obtain⟨x,_,y,_,_,h7,_⟩:=(zF8 (s:=p.1) (u:=p.2)).1 (A7.1 hp).1;rw[<-h7,mg,AG,eU]
 have hso:=zVk U O hOl (λp hp=>by rw[hOr p hp];omega) hnd;have hu1:=zFy U U.length rfl;have hu2:(rwsD O).take O.length=rwsD O:=AA (by simp);have hu3:(vlsD O).take O.length=vlsD O:=AA (by simp);clear hO hO' hOp hpf;refine vAu<|zB<|vF ((i:Int)<↑(Aa la))<|vZ2<|vA<|vr 1 (3<=3)<|vcl [Ar [Ae (nsD U)<|Aa U,Ae (Am (Aa O)<|Ag 0<|Az<|rowB<|rwsD O)<|Aa O,Ae (Am (Aa O)<|Ag 0<|Az<|natB<|vlsD O)<|Aa O]] [Ar [Ae (nsD U)<|Aa U,Ae (rwsD O)<|Aa O,Ae (vlsD O)<|Aa O]] (LeL.of_eq (by simp(disch:=omega) only[AY,hu2,hu3])) (by exact hso)<|ve (Ac=Ac/\Ab=Ab/\3=3/\3<=3)<|zK<|vret (3<=3)<|.inr rfl
abbrev fcCK(f:FnK):List D:=[.row (nsD f.1) f.1.length, .row (zAl f.2) f.2.length, .row (zAq f.2) f.2.length]
theorem zP2(f:FnK):(fcCK f).length=3:=rfl
structure FVK(f:FnK):Prop where
 asc:Asc f.1
 len:∀p∈f.2,p.1.length=f.1.length
 vs:∀p∈f.2,∀x∈p.1,Vs x
 sz:f.2.length<=1000000
 sm:∀p∈f.2,okC p.2
 nd:Ndk f.2
theorem zZy(l:List (Rw×(Option Nat))){k:Nat}(h:k<l.length):(l.map (·.1)).getD k []=(l.getD k Ak).1:=by simp[Au,h]
theorem zZw(l:List (Rw×(Option Nat))){k:Nat}(h:k<l.length):(l.map (·.2)).getD k Ak=(l.getD k Ak).2:=by simp[Au,h]
set_option maxHeartbeats 8000000 in
theorem zS0(f g:FnK)(os:List FnK)(hf:FVK f)(hg:FVK g)(ho:∀o∈os,FVK o)(hl:os.length<=1000)(hsz:f.2.length*g.2.length<=1000000):
  Pure Al 62 [trpD,fcDK f.1 f.2,fcDK g.1 g.2, .row (os.flatMap fcCK) os.length] [] (fcDK (un f.1 g.1) (srtL ((zBd Sk.mul f.1 f.2 g.1 g.2).filter λp=>os.all λo=>okO (un f.1 g.1) p.1 (faNK o)))):=by
 obtain⟨A,la⟩:=f;obtain⟨B,lb⟩:=g;obtain⟨hA,al,av,as',am,nda⟩:=hf;obtain⟨hB,bl,bv,bs',bm,ndb⟩:=hg;simp only at hA al av as' am nda hB bl bv bs' bm ndb hsz⊢;have nA:=zBc hA;have nB:=zBc hB;have hmA:=zA3 hA.2;have hmB:=zA3 hB.2;have hmo:=zH1 hmA hmB;have hma:=zMt (b:=msk B) hmA;have sA:=zJz A _ rfl (by omega) hA.2 (zAl la) (zAq la) la.length la.length;have sB:=zJz B _ rfl (by omega) hB.2 (zAl lb) (zAq lb) lb.length lb.length;have hU:=zQm A B;have hmu:=zY7 hA.2 hB.2;have hmem:=zE0 (msk A|||msk B) hmo;rw[hmu,zEf hU]at hmem;have nU:=zBc hU;rw[hmu]at hmo;have cA:=zB0 A A _ rfl hA.2 (msk A&&&msk B) hma;have cB:=zB0 B B _ rfl hB.2 (msk A&&&msk B) hma;obtain⟨U,eU⟩:∃U,U=un A B:=⟨_,rfl⟩;rw[<-eU]at hU hmu hmem nU hmo⊢;refine zH (T:=Tm) Tm_ok mixed Tryz.func62 rfl<|zB<|zA rfl<|v0s<|veT<|zB<|vd [0,1,2,3,4,5]<|vr 1 (3<=3)<|vc (sA)<|vr 1 (3<=3)<|vc (sB)<|vrT 1<|vs 30 (Ay<|AI AB<|A1 AB (↑(AH (Ap 32 (↑(msk A):Int)|||Ap 32 (↑(msk B):Int))):Int)) (dig<|msk U) (hd:=by simp(disch:=omega) only[zKu,zA1,hmu])<|veT<|zB<|zA rfl<|vrT 1<|vc (hmem)<|ve (((1=1/\1<=3/\True)/\Ab=Ab)/\Ac=Ac/\Ab=Ab/\3=3/\3<=3)<|zB<|zA rfl<|veT<|zB<|zB<|zA rfl<|veT<|zF<|zQ (λ(i:Nat)=>fr 147 [(0,trpD),(5,Ai 0 0),(6,Ai 1 0),(8,Ai 2 0),(9,dig<|msk U),(10,Ai 3 0),(11,Ah 4 0 i (i*2) Ab),(34,Ae (As fcCK os)<|Aa os),(35,iD (Aa os:Int)),(36,iD (i:Int))]) (λ(i:Nat)=>[fB1K (.row (nsD A) A.length) (.row (zAl la) la.length)<|.row (zAq la) la.length,fB1K (.row (nsD B) B.length) (.row (zAl lb) lb.length)<|.row (zAq lb) lb.length,fB1K nl nl nl,fB1K (.row (nsD U) U.length) nl nl,fltB<|((os.take i).map (zDo U)).flatMap flC]) (λi=>os.length-i) (λ(i:Nat)=>i<=os.length) 0 ?_ ?_ ?_
 ·omega
 ·refine vk 4
 rintro i h1;rcases AF i os.length with h2|h2
 ·have hom:os.getD i Ak∈os:=by rw[Au,AC h2];exact AZ h2
  obtain⟨hO,ol,ov,os2,_,_⟩:=ho _ hom;have hg2:=zA9 zP2 os i h2;have hle:=zB5 zP2 os i h2;have hne:=zCb zP2 (by decide) os;have he:((os.take (i+1)).map (zDo U)).flatMap flC=((os.take i).map (zDo U)).flatMap flC++flC (zDo U (os.getD i Ak)):=by
   rw[zBl os i h2];simp
  have hlb:(((os.take i).map (zDo U)).flatMap flC).length=i*2:=by rw[zCc zFq];simp;omega
  have nO:=zBc hO;generalize os.getD i Ak=o at*;have hfo:=zTi o.1 U _ _ o.2.length rfl rfl nO nU hO.2 hU.2 (o.2.map (·.1)) _ (by simp) os2 (λr hr=>by
   obtain⟨p,hp,rfl⟩:=AD.1 hr;exact ol p hp) (λr hr=>by
   obtain⟨p,hp,rfl⟩:=AD.1 hr;exact ov p hp) (zAq o.2) (msk U) hmo
  refine zB<|zA rfl<|v0s<|veT<|zB<|vT ((i:Int)<(Aa os:Int))<|zJ<|zC<|zE<|zB<|zF<|zB<|zA rfl<|vr 2 (ix (i:Int) (Aa os:Int) (As fcCK os≠[])/\3<=Aa (Ag (i*3)<|As fcCK os))<|vs 39 (Ar<|Am 3<|Ag (i*3)<|As fcCK os) (Ar<|fcCK o) (hd:=by simp(disch:=omega) only[hg2])<|ve (Ac=Ac/\Ab=Ab/\3=3/\3<=3)<|zA rfl<|vr 5 (3<=3/\True/\0<3)<|vc (hfo)<|vr 3 (((2=2/\2<=2/\True)/\0<2/\2=2/\2<=16777216/\1<=9223372036854775807)/\AV (fltB<|As flC<|Ad (zDo U)<|Am i os)=Ab/\Aa (Az<|fltB<|As flC<|Ad (zDo U)<|Am i os)=i*2/\i*2=i*2/\AM (fltB<|As flC<|Ad (zDo U)<|Am i os)=203/\AN (fltB<|As flC<|Ad (zDo U)<|Am i os)=2/\2=2/\0<2/\0<32/\203=203/\(i+1)*32<=140737488355328/\2=2/\AK (Ax<|fltB<|As flC<|Ad (zDo U)<|Am i os)=Ac/\(Ac=Ac\/AL (Ax<|fltB<|As flC<|Ad (zDo U)<|Am i os)=Ab))<|vnil<|zD<|zC<|zE<|zA rfl<|vr 2 (i6 ((i:Int)+(1:Int)))<|vnil<|zC<|⟨i+1,by omega,by omega,?_⟩;rw[he];refine vk 5
 rw[AA h2];obtain rfl:i=os.length:=by omega
 obtain⟨c1,ec1⟩:∃c,c=zAu (λv=>(msk A&&&msk B).testBit v) A:=⟨_,rfl⟩;obtain⟨c2,ec2⟩:∃c,c=zAu (λv=>(msk A&&&msk B).testBit v) B:=⟨_,rfl⟩;rw[<-ec1]at cA;rw[<-ec2]at cB;have hl1:∀c∈c1,c<A.length:=λc h=>by rw[ec1]at h;exact(zDf.1 h).1
 have hl2:∀c∈c2,c<B.length:=λc h=>by rw[ec2]at h;exact(zDf.1 h).1
 have hn1:c1.length<=32:=by rw[ec1];exact AX (zD7 _ _) nA
 have hn2:c2.length<=32:=by rw[ec2];exact AX (zD7 _ _) nB
 refine zB<|zA rfl<|v0s<|veT<|zB<|vF ((Aa os:Int)<(Aa os:Int))<|zT<|zM<|zM<|zR rfl<|zC<|zE<|zB<|vd [0,1,2,3,4,5]<|vr 1 (3<=3)<|vc (sA)<|vr 1 (3<=3)<|vc (sB)<|vrT 1<|vs 53 (Ay<|AI AB<|A1 AB (↑(AH (Ap 32 (↑(msk A):Int)&&&Ap 32 (↑(msk B):Int))):Int)) (dig (msk A&&&msk B)) (hd:=by simp(disch:=omega) only[zNy,zA1])<|veT<|zB<|vd [0,2,4,6,1,3,5,7,8,9]<|vr 5 (True/\True/\0<3)<|vc (cA)<|vr 1 (0<3)<|vc (cB)<|veT<|zB<|zA rfl<|veT<|zB<|zB<|zA rfl<|ve (True/\0<2)<|zF ?_;obtain⟨inf,ty⟩:=gty;obtain⟨Lb,eLb⟩:∃L:List Rw,L=(lb.map (·.1)).map λr=>zP r c2:=⟨_,rfl⟩;have hLb:Lb.length=lb.length:=by rw[eLb];simp
 obtain⟨base,ebase⟩:∃base:List Bk,base=[fB1K (.row (nsD A) A.length) (.row (zAl la) la.length) (.row (zAq la) la.length),fB1K (.row (nsD B) B.length) (.row (zAl lb) lb.length) (.row (zAq lb) lb.length),fB1K nl nl nl,fB1K (.row (nsD U) U.length) nl nl,fltB ((os.map (zDo U)).flatMap flC)]:=⟨_,rfl⟩;have hbb:bBL 5 base=true:=by rw[ebase];rfl
 refine zAo (λ(k:Nat)(st:List Bk)(ns:List Nat)=>fr 147 [(0,trpD),(5,Ai 0 0),(6,Ai 1 0),(8,Ai 2 0),(10,Ai 3 0),(11,Ah 4 0 (Aa os) (Aa os*2) Ab),(15,Ae (nsD c1)<|Aa c1),(16,Ae (nsD c2)<|Aa c2),(17,Ba 5),(64,Ae (zAl lb)<|Aa lb),(65,iD (Aa lb:Int)),(66,iD (k:Int))]) (λ(k:Nat)(st:List Bk)(ns:List Nat)=>st) (λk st ns=>lb.length-k) (λ(k:Nat)(st:List Bk)(ns:List Nat)=>k<=lb.length/\Grp 5 206 3 (Lb.take k) base st ns) 0 [fB1K (.row (nsD A) A.length) (.row (zAl la) la.length)<|.row (zAq la) la.length,fB1K (.row (nsD B) B.length) (.row (zAl lb) lb.length)<|.row (zAq lb) lb.length,fB1K nl nl nl,fB1K (.row (nsD U) U.length) nl nl,fltB<|(os.map (zDo U)).flatMap flC,⟨[],206,0,Ac,Ac,.map []⟩] [] ?_ ?_ ?_
 ·exact⟨by omega,⟨by rw[ebase];rfl,rfl,rfl,CB,λj k r h=>by simp at h⟩⟩
 ·refine vk 6
 rintro k st ns ⟨h3,hG⟩;rcases AF k lb.length with h4|h4
 ·have hne:zAl lb≠[]:=zX (h:=by simp;omega);have hrow:(lb.map (·.1)).getD k []∈lb.map (·.1):=by
   rw[Au,AC (by simpa using h4)];exact AZ _
  obtain⟨p,hp,he⟩:=AD.1 hrow;have hlen2:=bl p hp;have hvs:=bv p hp;rw[he]at hlen2 hvs;have hx1:=zY (lb.map (·.1)) k (by simpa using h4);have hts:Lb.take (k+1)=Lb.take k++[zP ((lb.map (·.1)).getD k []) c2]:=by
   rw[Bh (by omega)];congr 1;simp only[eLb,List.getElem_map,Au,Cd,AC h4,BX,BW]
  generalize (lb.map (·.1)).getD k []=row at*;have hk:=zJw row c2 _ _ rfl rfl (by rw[hlen2];exact hl2) hvs;refine zB<|zA rfl<|zJk [] [] [] (True) [(67,bD<|decide ((k:Int)<(Aa lb:Int)))] (by kernel_rfl) trivial ?_;refine zB<|vT ((k:Int)<(Aa lb:Int))<|zJ<|zC<|zE<|zB<|zF<|zB<|zA rfl<|zC1 2 [] [] (ix (k:Int) (Aa lb:Int) (zAl lb≠[])) [(68,iD (k:Int)),(69,D.ptr<|Ag (A5 (k:Int)*1)<|zAl lb)] ⟨(by omega),⟨(by omega),(by assumption)⟩⟩ ?_;refine zJj 69 (D.ptr<|Ag (A5 (k:Int)*1)<|zAl lb) (D.ptr<|Ag k<|zAl lb) (by kernel_rfl) (by simp(disch:=omega) only[Br,AW]) (by kernel_rfl) ?_;refine zC1 1 [] [] (0<Aa (Ag k<|zAl lb)) [(70,AJ (Ag k<|zAl lb) Uk)] (by(simp;omega)) ?_;refine zJj 70 (AJ (Ag k<|zAl lb) Uk) (rowV row) (by kernel_rfl) (by simp(disch:=omega) only[hx1]) (by kernel_rfl) ?_;refine zJk [] [] [67,68,69,70] (True) [(18,iD (k:Int)),(19,Ae (zN row)<|Aa row)] (by kernel_rfl) trivial ?_;refine zB<|zA rfl<|zC1 2 [] [] (True) [(71,Ae (zN row)<|Aa row),(72,Ae (nsD c2)<|Aa c2)] trivial ?_;refine zVj [Ae (zN row)<|Aa row,Ae (nsD c2)<|Aa c2] (by kernel_rfl) (by exact hk) ?_;refine zC1 1 [] [] (True) [(20,Ay<|Aw<|bs<|idR<|zP row c2)] trivial ?_;refine zG4 ?_ (by kernel_rfl);refine zC (zLz λs0 hs0=>?_);refine zE<|zA rfl<|zKm (.mref 5) rfl rfl rfl (by rw[hs0];kernel_rfl)<|zKm (.val<|kyv<|zP row c2) rfl rfl rfl (by rw[hs0];kernel_rfl)<|zKm (.mref 5) rfl rfl rfl (by rw[hs0];kernel_rfl)<|zKm (.val<|kyv<|zP row c2) rfl rfl rfl (by rw[hs0];kernel_rfl) ?_;refine zN9 (m:=5) (L:=Lb.take k) (r:=zP row c2) (i:=k) (base:=base) (ns:=ns) (a1:=76) (a2:=77) (a3:=18) (b1:=74) (b2:=75) (s1:=78) (s2:=79) (s3:=80) (s4:=81) ty (λ_ _=>rfl) (by simp;omega) (by omega) rfl rfl rfl rfl rfl rfl rfl rfl rfl rfl rfl rfl rfl rfl rfl (by rw[hs0];kernel_rfl) (by decide) (by rw[hs0];kernel_rfl) (by rw[hs0];kernel_rfl) (by rw[hs0];kernel_rfl) (by rw[hs0];kernel_rfl) (by rw[hs0];kernel_rfl) (by rw[hs0];kernel_rfl) hbb hG ?_;intro st' ns' e1 e3 e4 hG';refine zG4 ?_ (by kernel_rfl);refine zD<|zC<|zL0 [74,75,76,77,78,79,80,81] (sl':=s0) (by rw[hs0];kernel_rfl) ?_;subst hs0;refine zA rfl<|zC1 2 [] [] (i6 ((k:Int)+(1:Int))) [(66,iD (↑(k+1):Int)),(82,iD (↑(k+1):Int))] (by omega) ?_;refine zG4 ?_ (by kernel_rfl);refine zC<|⟨k+1,st',ns',⟨by omega,by rw[hts];exact hG'⟩,by omega,?_⟩;refine vkp [0,5,6,8,10,11,15,16,17,64,65,66]
 rw[AA (by omega)]at hG;subst ebase;refine zB<|zA rfl<|zJk [] [] [] (True) [(67,bD<|decide ((k:Int)<(Aa lb:Int)))] (by kernel_rfl) trivial ?_;refine zB<|vF ((k:Int)<(Aa lb:Int))<|zT<|zM<|zM<|zR rfl<|zC ?_;have hfl:=zBs zFq (os.map (zDo U)) os.length (by simp);refine zAw ((zN4 (m:=5) (s:=17) (λ_ _=>rfl) (by kernel_rfl) (by kernel_rfl) hbb hG).trans<|((Bb (j:=3) (i:=1) (rowB []) rfl rfl rfl rfl).trans (Bb (j:=3) (i:=2) (zGc []) rfl rfl rfl rfl)).trans<|Weak.osr (s:=11) (k:=4) (off:=0) (n:=os.length) (m:=os.length*2) (wh:=Ab) (cs:=(os.map (zDo U)).flatMap flC) (by kernel_rfl) (show Aj (Ae ((((os.map (zDo U)).flatMap flC).drop 0).take (os.length*2)) os.length,[4])=_ by rw[AY,hfl])) ?_;refine zB<|zB<|zA rfl<|v0s<|ve (True/\0<2)<|zF ?_;clear hG h3 h4;obtain⟨ok,eok⟩:∃ok:Rw->Bool,ok=λs=>os.all λo=>okO U s (faNK o):=⟨_,rfl⟩;have hpf:((zBd Sk.mul A la B lb).filter λp=>os.all λo=>okO U p.1 (faNK o))=la.flatMap λp=>zDm A B ok p (zFd A B lb p):=by
  rw[eok];exact zLt A B lb (λs=>os.all λo=>okO U s (faNK o)) la
 rw[hpf];refine zA2 (λ(i:Nat)(O:List (Rw×Option Nat))=>fr 147 [(0,trpD),(5,Ai 0 0),(6,Ai 1 0),(8,Ai 2 0),(10,Ai 3 0),(11,D.osr 4 0 (Aa os) (Aa os*2) Ab<|As flC<|Ad (zDo U) os),(15,Ae (nsD c1)<|Aa c1),(17,D.mfz (Ad kyv<|allK Lb)<|zM1 Lb),(84,Ae (zAl la)<|Aa la),(85,iD (Aa la:Int)),(86,iD (i:Int))]) (λ(i:Nat)(O:List (Rw×(Option Nat)))=>[fB1K (.row (nsD A) A.length) (.row (zAl la) la.length)<|.row (zAq la) la.length,fB1K (.row (nsD B) B.length) (.row (zAl lb) lb.length)<|.row (zAq lb) lb.length,fB1K nl nl nl,fB1K (.row (nsD U) U.length) (.osl 5 0 O.length O.length Ab)<|.osl 6 0 O.length (O.length*2) Ab,⟨(os.map (zDo U)).flatMap flC,203,2,Ab,Ab,.plain⟩,rowB<|zAl O,zGc<|zAq O]) (λi O=>la.length-i) (λ(i:Nat)(O:List (Rw×(Option Nat)))=>i<=la.length/\O=(la.take i).flatMap λp=>zDm A B ok p (zFd A B lb p)) 0 [] ?_ ?_ ?_
 ·exact⟨by omega,by simp⟩
 ·refine vk 7
 rintro i O ⟨h3,hO⟩;rcases AF i la.length with h4|h4
 ·have hne:zAl la≠[]:=zX (h:=by simp;omega);have hne2:zAq la≠[]:=zCb zAv (by decide) (la.map (·.2)) (h:=by simp;omega);have hx3:=zB5 zAv (la.map (·.2)) i (by simpa using h4);have hx1:=zY (la.map (·.1)) i (by simpa using h4);have hx2:=zA9 zAv (la.map (·.2)) i (by simpa using h4);have hpm:la.getD i Ak∈la:=by rw[Au,AC h4];exact AZ h4
  have hr1:(la.map (·.1)).getD i []=(la.getD i Ak).1:=by simp[Au,h4]
  have hr2:(la.map (·.2)).getD i Ak=(la.getD i Ak).2:=by simp[Au,h4]
  have hfs:=zTg (A:=A) (B:=B) (lb:=lb) (ok:=ok) la i h4;have hOl:O.length<=i*lb.length:=by rw[hO];exact zNo la i
  have hmul:(i+1)*lb.length<=la.length*lb.length:=Nat.mul_le_mul_right _ h4;rw[B8]at hmul;rw[<-hO]at hfs;have hlen2:=al _ hpm;have hvs:=av _ hpm;have hsm:=am _ hpm;rw[hr1]at hx1;rw[hr2]at hx2;generalize la.getD i Ak=p at*;have hk:=zJw p.1 c1 _ _ rfl rfl (by rw[hlen2];exact hl1) hvs;have hlk:=zZg Lb (zP p.1 c1);have hps:=pos_selK (lb:=lb) hA hB p;rw[<-ec1,<-ec2,<-eLb]at hps;by_cases hin:zP p.1 c1∈Lb
  ·rw [if_pos hin]at hlk;have hposk:∀k∈posL Lb (zP p.1 c1),k<lb.length:=λk hk=>by rw[<-hLb];exact zYt hk
   generalize posL Lb (zP p.1 c1)=pos at*;focus
    refine zB (zA rfl (v0s (veT (zB (vT ((i:Int)<(Aa la:Int)) (zJ (zC (zE (zB (zF (zB (zA rfl (vr 2 (ix (i:Int) (Aa la:Int) (zAl la≠[])) (vp 89 (i) (zAl la) (vr 1 (0<Aa (Ag i (zAl la))) (vsh 90 hx1 (veT (zB (zA rfl (vrT 3 (vc (hk) (vwh 1 [] [] (zS (AO (AP AQ "string" 1 16 Ab 8 8 (Aj (Aw (AR #[]))) Ab #[])) (Aw (bs (idR (zP (AE p) c1))))=Ab/\Bi (Ad kyv (allK Lb)) (zS (AO (AP AQ "string" 1 16 Ab 8 8 (Aj (Aw (AR #[]))) Ab #[])))=Ab) ?_ ?_))))))))))))))))))))));rotate_left;refine vsh 95 hlk (veT (zF ?_));rotate_left
   ·exact⟨rfl,zBt _⟩
   have hsl:(zFd A B lb p).length=pos.length:=by rw[<-hps,AG]
   have hsb:(zFd A B lb p).length<=lb.length:=A9 _ _;have hts:=λt h=>zSw (A:=A) (B:=B) (ok:=ok) p (zFd A B lb p) t h;refine zA2 (λ(t:Nat)(R:List (Rw×Option Nat))=>fr 147 [(0,trpD),(5,Ai 0 0),(6,Ai 1 0),(8,Ai 2 0),(10,Ai 3 0),(11,D.osr 4 0 (Aa os) (Aa os*2) Ab<|As flC<|Ad (zDo U) os),(15,Ae (nsD c1)<|Aa c1),(17,D.mfz (Ad kyv<|allK Lb)<|zM1 Lb),(21,iD (i:Int)),(22,Ae (zN<|AE p)<|Aa<|AE p),(84,Ae (zAl la)<|Aa la),(85,iD (Aa la:Int)),(86,iD (i:Int)),(95,Ae (nsD pos)<|Aa pos),(96,iD (Aa pos:Int)),(97,iD (t:Int))]) (λ(t:Nat)(R:List (Rw×(Option Nat)))=>[fB1K (.row (nsD A) A.length) (.row (zAl la) la.length)<|.row (zAq la) la.length,fB1K (.row (nsD B) B.length) (.row (zAl lb) lb.length)<|.row (zAq lb) lb.length,fB1K nl nl nl,fB1K (.row (nsD U) U.length) (.osl 5 0 R.length R.length Ab)<|.osl 6 0 R.length (R.length*2) Ab,⟨(os.map (zDo U)).flatMap flC,203,2,Ab,Ab,.plain⟩,rowB<|zAl R,zGc<|zAq R]) (λt R=>pos.length-t) (λ(t:Nat)(R:List (Rw×(Option Nat)))=>t<=pos.length/\R=O++zDm A B ok p ((zFd A B lb p).take t)) 0 O ?_ ?_ ?_
   ·exact⟨by omega,by simp[zDm]⟩
   ·refine vk 7
   rintro t R ⟨h5,hR⟩;have hRl:R.length<=O.length+t:=by
    have h6:=zNc (A:=A) (B:=B) (ok:=ok) p ((zFd A B lb p).take t);rw[hR,A8];simp only[B_]at h6;omega
   rcases AF t pos.length with h6|h6
   ·have hne3:zAl lb≠[]:=zX (h:=by simp;omega);have hne4:zAq lb≠[]:=zCb zAv (by decide) (lb.map (·.2)) (h:=by simp;omega);have hkm:=hposk _ (zBv pos t h6);have hsg:(zFd A B lb p).getD t Ak=lb.getD (pos.getD t 0) default:=by
     rw[<-hps];simp[Au,h6]
    have hqm:lb.getD (pos.getD t 0) Ak∈lb:=by rw[Au,AC hkm];exact AZ hkm
    have hy1:=zY (lb.map (·.1)) (pos.getD t 0) (by simpa using hkm);have hy2:=zA9 zAv (lb.map (·.2)) (pos.getD t 0) (by simpa using hkm);have hr3:=zZy lb hkm;have hr4:=zZw lb hkm;have hp1:0<((zAl lb).drop (pos.getD t 0)).length:=by rw[BV,AG,AG];omega
    have hp2:=zB5 zAv (lb.map (·.2)) (pos.getD t 0) (by simpa using hkm);have ht1:=hts t (by omega);rw[hsg]at ht1;rw[hr3]at hy1;rw[hr4]at hy2;have hql:=bl _ hqm;have hqv:=bv _ hqm;have hqs:=bm _ hqm;have hz:=zAi pos t h6;generalize lb.getD (pos.getD t 0) Ak=q at*;have hmg:Pure Al 95 [.row (nsD U) U.length, .row (nsD A) A.length, .row (zN p.1) p.1.length, .row (nsD B) B.length, .row (zN q.1) q.1.length] [] (.row (zN (mg A p.1 B q.1)) U.length):=by
     have h:=zS1 A B p.1 q.1 _ _ _ rfl rfl rfl hlen2 hql hA hB nA nB (by rw[<-eU];exact nU);rw[<-eU]at h;rw[hlen2,hql];exact h
    have hml:(mg A p.1 B q.1).length=U.length:=by rw[mg,AG,eU]
    have hmv:∀v∈mg A p.1 B q.1,Vs v:=λv hv=>by
     obtain⟨w,_,rfl⟩:=AD.1 hv;have gv:∀(C:List Nat)(x:List Va),(∀v∈x,Vs v)->Vs (asg C x w):=λC x hx=>by
      unfold asg;rw[Au];cases e:x[C.idxOf w]? with
      |none=>exact⟨by decide,by decide,by decide⟩
      |some u=>exact hx u (BT e)
     unfold sg;split
     ·exact gv A _ hvs
     exact gv B _ hqv
    have hpa:=zPp (os.map (zDo U)) _ rfl (by simp;omega) (mg A p.1 B q.1) _ hml (by omega) hmv (λf hf=>by
     obtain⟨o,ho',rfl⟩:=AD.1 hf;exact⟨by have:=zD7 (λv=>(msk o.1&&&msk U).testBit v) U;simp only[zDo];omega,λc hc=>by rw[hml];exact(zDf.1 hc).1⟩)
    rw[AG,B5]at hpa;have hoke:(os.all ((λf=>decide (zP (mg A p.1 B q.1) f.1∈f.2))∘zDo U))=ok (mg A p.1 B q.1):=by
     rw[eok];simp only[Function.comp_def];rw[BA,Bc,Bc];constructor
     ·intro h o ho';rw[<-zZ8 hU (ho o ho').asc];exact h o ho'
     intro h o ho';rw[zZ8 hU (ho o ho').asc];exact h o ho'
    rw[hoke]at hpa;have hmu2:=tmul_c p.2 q.2 hsm hqs;have hvl:=zAv (Sk.mul p.2 q.2);have hRv:(zAq R).length=R.length*2:=by rw[zAq,zCc zAv];simp
    focus
     refine zB<|zA rfl<|v0s<|veT<|zB<|vT ((t:Int)<(Aa pos:Int))<|zJ<|zC<|zE<|zB<|zF<|zB<|zA rfl<|vr 1 (ix (t:Int) (Aa pos:Int) (nsD pos≠[])) ?_ ⟨(by omega),⟨(by omega),(by exact zX)⟩⟩;refine vp 99 (t) (nsD pos)<|vr 1 (0<Aa (Ag t<|nsD pos))<|vsh 100 hz<|veT<|zB<|vd [0,2,4,5,7,9,1,3,6,8,10,11,12,13]<|vr 11 (True/\True/\True/\True/\0<3/\0<3/\0<3/\0<2/\ix (↑(Af pos t 0):Int) (Aa lb:Int) (zAl lb≠[]))<|vp 111 (Af pos t 0) (zAl lb)<|vr 1 (0<Aa (Ag (Af pos t 0)<|zAl lb))<|vsh 112 hy1<|vc (hmg)<|veT<|zB<|zA rfl<|vrT 2<|vc (hpa)<|veT<|zAa (t:=ok (mg A (AE p) B (AE q))) (by kernel_rfl) (λhc=>?_)<|λhc=>?_;refine zB<|zA rfl<|vr 7 (True/\0<2/\((1=1/\1<=1/\True)/\0<1/\1=1/\1<=16777216/\1<=9223372036854775807)/\(AV (rowB<|zAl R)=Ab/\Aa (Az<|rowB<|zAl R)=Aa R*1/\Aa R=Aa R*1/\AM (rowB<|zAl R)=110/\AN (rowB<|zAl R)=1/\1=1/\0<1/\0<24/\110=110/\(Aa R+1)*24<=140737488355328/\1=1/\AK (Ax<|rowB<|zAl R)=Ac/\(Ac=Ac\/AL (Ax<|rowB<|zAl R)=Ab))/\True/\A_ (An [Ae (nsD U)<|Aa U,Uk,Ah 6 0 (Aa R) (Aa R*2) Ab] 48 0 Ac Ac Ao)=Ac/\Ab=Ab/\1=1/\2<=3)<|vb 3 (An [Ae (nsD U)<|Aa U,Ah 5 0 (Aa R+1) ((Aa R+1)*1) Ab,Ah 6 0 (Aa R) (Aa R*2) Ab] (AM<|An [Ae (nsD U)<|Aa U,Uk,Ah 6 0 (Aa R) (Aa R*2) Ab] 48 0 Ac Ac Ao) (AN<|An [Ae (nsD U)<|Aa U,Uk,Ah 6 0 (Aa R) (Aa R*2) Ab] 48 0 Ac Ac Ao) Ac Ac<|Ax<|An [Ae (nsD U)<|Aa U,Uk,Ah 6 0 (Aa R) (Aa R*2) Ab] 48 0 Ac Ac Ao) (An [Ae (nsD U)<|Aa U,Ah 5 0 (Aa R+1) (Aa R+1) Ab,Ah 6 0 (Aa R) (Aa R*2) Ab] 48 0 Ac Ac Ao) (hd:=by simp(disch:=omega) only[AW])<|veT<|vd [0,2,3,5,8,10,13,14,15,1,4,6,7,9,11,12,16,17,18,19,20]<|vr 13 (True/\True/\True/\0<1/\0<1/\ix (i:Int) (Aa la:Int) (zAq la≠[])/\2<=Aa (Ag (i*2)<|zAq la))<|vs 130 (Ar<|Am 2<|Ag (i*2)<|zAq la) (Ar<|ckD<|A0 p) (hd:=by simp(disch:=omega) only[hx2])<|vr 3 (0<1/\ix (↑(Af pos t 0):Int) (Aa lb:Int) (zAq lb≠[])/\2<=Aa (Ag (Af pos t 0*2)<|zAq lb))<|vs 135 (Ar<|Am 2<|Ag (Af pos t 0*2)<|zAq lb) (Ar<|ckD<|A0 q) (hd:=by simp(disch:=omega) only[hy2])<|vc (hmu2)<|vr 4 (((2=2/\2<=2/\True)/\0<2/\2=2/\2<=16777216/\1<=9223372036854775807)/\(AV (An (zAq R) 54 2 Ab Ac Ao)=Ab/\Aa (zAq R)=Aa R*2/\Aa R*2=Aa R*2/\AM (An (zAq R) 54 2 Ab Ac Ao)=54/\AN (An (zAq R) 54 2 Ab Ac Ao)=2/\2=2/\0<2/\0<32/\54=54/\(Aa R+1)*32<=140737488355328/\2=2/\AK (Ax<|An (zAq R) 54 2 Ab Ac Ao)=Ac/\(Ac=Ac\/AL (Ax<|An (zAq R) 54 2 Ab Ac Ao)=Ab))/\True/\A_ (An [Ae (nsD U)<|Aa U,Ah 5 0 (Aa R+1) (Aa R+1) Ab,Uk] 48 0 Ac Ac Ao)=Ac/\Ab=Ab/\1=1/\3<=3)<|vnil<|zD<|zC<|zE<|zA rfl<|vr 2 (i6 ((t:Int)+(1:Int)))<|vnil<|zC ?_;rotate_left;refine zJ<|zD<|zC<|zE<|zA rfl<|vr 2 (i6 ((t:Int)+(1:Int)))<|vnil<|zC ?_;rotate_left
    ·rw[if_pos hc]at ht1;refine⟨t+1,R++[prQK A B p q],⟨by omega,?_⟩,by omega,?_⟩
     ·rw[ht1,<-BI,<-hR]
     rw[show zAl (R++[prQK A B p q])=zAl R++[.row (zN (mg A p.1 B q.1)) U.length] by rw[<-hml];simp[prQK],show zAq (R++[prQK A B p q])=zAq R++ckD (Sk.mul p.2 q.2) by simp[zAq,prQK],A8];refine vk 7
    rw[if_neg (by simpa using hc),Bs]at ht1;refine⟨t+1,R,⟨by omega,by rw[ht1];exact hR⟩,by omega,?_⟩;refine vk 7
   rw[AA (by omega)]at hR;refine zB<|zA rfl<|v0s<|veT<|zB<|vF ((t:Int)<(Aa pos:Int))<|zT<|zM<|zM<|zR rfl<|zD<|zC<|zE<|zA rfl<|vr 2 (i6 ((i:Int)+(1:Int)))<|vnil<|zC<|⟨i+1,R,⟨by omega,by rw[hfs];exact hR⟩,by omega,?_⟩;refine vk 7
  rw[if_neg hin]at hlk;rw[zHz hin]at hps;focus
   refine zB (zA rfl (v0s (veT (zB (vT ((i:Int)<(Aa la:Int)) (zJ (zC (zE (zB (zF (zB (zA rfl (vr 2 (ix (i:Int) (Aa la:Int) (zAl la≠[])) (vp 89 (i) (zAl la) (vr 1 (0<Aa (Ag i (zAl la))) (vsh 90 hx1 (veT (zB (zA rfl (vrT 3 (vc (hk) (vwh 1 [] [] (zS (AO (AP AQ "string" 1 16 Ab 8 8 (Aj (Aw (AR #[]))) Ab #[])) (Aw (bs (idR (zP (AE p) c1))))=Ab/\Bi (Ad kyv (allK Lb)) (zS (AO (AP AQ "string" 1 16 Ab 8 8 (Aj (Aw (AR #[]))) Ab #[])))=Ab) ?_ ?_))))))))))))))))))))));rotate_left;refine vsh 95 hlk (veT (zF (zW (zB (zA rfl (veT (zB (vf (zT (zM (zM (zR rfl (zD (zC (zE (zA rfl (vr 2 (i6 ((i:Int)+(1:Int))) (vnil (zC ?_)))))))))))))))))));rotate_left
  ·exact⟨rfl,zBt _⟩
  refine⟨i+1,O,⟨by omega,?_⟩,by omega,?_⟩
  ·rw[hfs,<-hps];simp[zDm]
  refine vk 7
 have hO':O=la.flatMap λp=>zDm A B ok p (zFd A B lb p):=by rw[AA (by omega)]at hO;exact hO
 rw[<-hO'];have hOl:O.length<=1000000:=by
  have h5:=zNo (A:=A) (B:=B) (lb:=lb) (ok:=ok) la la.length;rw[BF,<-hO']at h5;omega
 have hOp:O=(zBd Sk.mul A la B lb).filter λp=>ok p.1:=by rw[hO',eok];exact(zLt A B lb (λs=>os.all λo=>okO U s (faNK o)) la).symm
 have hnd:Ndk O:=by rw[hOp];exact zC6 ok (zDk hA hB nda ndb al bl)
 have hOr:∀p∈O,p.1.length=U.length:=λp hp=>by
  rw[hOp]at hp;obtain⟨x,_,y,_,_,h7,_⟩:=(zF8 (s:=p.1) (u:=p.2)).1 (A7.1 hp).1;rw[<-h7,mg,AG,eU]
 have hso:=zQt U O hOl (λp hp=>by rw[hOr p hp];omega) hnd;have hu1:=zFy U U.length rfl;have hu2:(zAl O).take O.length=zAl O:=AA (by simp);have hu3:(zAq O).take (O.length*2)=zAq O:=zBs zAv _ _ (by simp);clear hO hO' hOp hpf;refine zB<|zA rfl<|v0s<|veT<|zB<|vF ((i:Int)<(Aa la:Int))<|zT<|zM<|zM<|zR rfl<|zC<|zE<|zB<|zA rfl<|vr 1 (3<=3)<|vcl [Ar [Ae (nsD U)<|Aa U,Ae (Am (Aa O)<|Ag 0<|Az<|rowB<|zAl O)<|Aa O,Ae (Am (Aa O*2)<|Ag 0<|Az<|zGc<|zAq O)<|Aa O]] [Ar [Ae (nsD U)<|Aa U,Ae (zAl O)<|Aa O,Ae (zAq O)<|Aa O]] (LeL.of_eq (by simp(disch:=omega) only[AY,hu3,hu2])) (by exact hso)<|ve (Ac=Ac/\Ab=Ab/\3=3/\3<=3)<|zK<|vret (3<=3)<|.inr rfl
set_option maxHeartbeats 4000000 in
theorem zYb(A:List Nat)(l:List (Rw×(Option Nat)))(v:Int)(ha:A.length<=32)(hb:l.length<=1000000)(hl:∀p∈l,p.1.length=A.length)(hv:∀p∈l,∀x∈p.1,Vs x)(hs0:∀p∈l,okC p.2)(hs:∀i,∀x∈(sumT Sk.add [] ((l.map λp=>(zP p.1 (zAu (λu=>decide ((u:Int)≠v)) A),p.2)).take i)).map (·.2),okC x):
  Pure Al 108 [trpD,fcDK A l,iD v] [] (fcDK ((zAu (λu=>decide ((u:Int)≠v)) A).map λj=>A.getD j 0) (srtL (sumT Sk.add [] (l.map λp=>(zP p.1 (zAu (λu=>decide ((u:Int)≠v)) A),p.2))))):=by
 refine zH (T:=Tc) (zGl _ _ _) mixed Tryz.func108 rfl<|zB<|zA rfl<|v0s<|veT<|zB<|zA rfl<|veT<|zB<|zA rfl<|vrT 1<|vnil<|zC<|vnn (fr 108 [(0,trpD),(2,iD v),(4,Ai 0 0),(6,Ai 1 0),(7,nl),(8,Ai 2 0)]) [An [Ae (nsD A)<|Aa A,Ae (zAl l)<|Aa l,Ae (zAq l)<|Aa l] 48 0 Ac Ac Ao,An [nl,nl,nl] 48 0 Ac Ac Ao,An [nl,nl,nl] 48 0 Ac Ac Ao]<|zAw (Bb (j:=2) (i:=0) (intB []) rfl rfl rfl rfl) ?_;refine zB<|zB<|zA rfl<|v0s<|ve (True/\0<3)<|zF<|zA2 (λ(i:Nat)(c:List Nat)=>fr 108 [(0,trpD),(2,iD v),(4,Ai 0 0),(6,Ai 1 0),(7,Ah 4 0 (Aa c) (Aa c) Ab),(8,Ai 2 0),(20,Ae (nsD A)<|Aa A),(21,iD (Aa A:Int)),(22,iD (i:Int))]) (λ(i:Nat)(c:List Nat)=>[fB1K (.row (nsD A) A.length) (.row (zAl l) l.length)<|.row (zAq l) l.length,fB1K nl nl nl,fB1K (.osl 3 0 c.length c.length Ab) nl nl,intB<|nsD (c.map λj=>A.getD j 0),intB<|nsD c]) (λi c=>A.length-i) (λ(i:Nat)(c:List Nat)=>i<=A.length/\c=((Av A.length).take i).filter λj=>decide (((A.getD j 0:Nat):Int)≠v)) 0 [] ?_ ?_ ?_
 ·exact⟨by omega,by simp⟩
 ·refine vk 4
 rintro i c ⟨h1,h2⟩;have hlen:c.length<=32:=by rw[h2];exact AX (A9 _ _) (by simp;omega)
 rcases AF i A.length with h3|h3
 ·have h4:=zJb (λu=>decide ((u:Int)≠v)) A i h3;rw[<-h2]at h4;focus
   refine zB<|zA rfl<|v0s<|veT<|zB<|vT ((i:Int)<(Aa A:Int))<|zJ<|zC<|zE<|zB<|zF<|zB<|zA rfl<|vr 2 (ix (i:Int) (Aa A:Int) (nsD A≠[])) ?_ ⟨(by omega),⟨(by omega),(by exact zX)⟩⟩;refine vp 25 (i) (nsD A)<|vr 1 (0<Aa (Ag i<|nsD A))<|vs 26 (AJ (Ag i<|nsD A) Uk) (iD (↑(Af A i 0):Int)) (hd:=by simp(disch:=omega) only[zAi])<|veT<|zB<|zA rfl<|veT<|zAa (t:=(↑(Af A i 0):Int)!=v) (by kernel_rfl) (λhc=>?_)<|λhc=>?_;simp only[bne_iff_ne]at hc;refine zB<|zA rfl<|vr 5 (((1=1/\1<=1/\True)/\0<1/\1=1/\1<=16777216/\1<=9223372036854775807)/\AV (intB<|nsD c)=Ab/\Aa (Az<|intB<|nsD c)=Aa c*1/\Aa c=Aa c*1/\AM (intB<|nsD c)=3/\AN (intB<|nsD c)=1/\1=1/\0<1/\0<8/\3=3/\(Aa c+1)*8<=140737488355328/\1=1/\AK (Ax<|intB<|nsD c)=Ac/\(Ac=Ac\/AL (Ax<|intB<|nsD c)=Ab))<|vs 7 (Ah 4 0 (Aa c+1) ((Aa c+1)*1) Ab) (Ah 4 0 (Aa c+1) (Aa c+1) Ab) (hd:=by simp(disch:=omega) only[AW])<|veT<|zA rfl<|vr 7 (True/\0<3/\((1=1/\1<=1/\True)/\0<1/\1=1/\1<=16777216/\1<=9223372036854775807)/\(AV (An (nsD<|Ad (λ(j:Nat)=>Af A j 0) c) 3 1 Ab Ac Ao)=Ab/\Aa (nsD<|Ad (λ(j:Nat)=>Af A j 0) c)=Aa c*1/\Aa c=Aa c*1/\AM (An (nsD<|Ad (λ(j:Nat)=>Af A j 0) c) 3 1 Ab Ac Ao)=3/\AN (An (nsD<|Ad (λ(j:Nat)=>Af A j 0) c) 3 1 Ab Ac Ao)=1/\1=1/\0<1/\0<8/\3=3/\(Aa c+1)*8<=140737488355328/\1=1/\AK (Ax<|An (nsD<|Ad (λ(j:Nat)=>Af A j 0) c) 3 1 Ab Ac Ao)=Ac/\(Ac=Ac\/AL (Ax<|An (nsD<|Ad (λ(j:Nat)=>Af A j 0) c) 3 1 Ab Ac Ao)=Ab))/\True/\Ac=Ac/\Ab=Ab/\1=1/\1<=3)<|vb 2 (An [Ah 3 0 (Aa c+1) ((Aa c+1)*1) Ab,nl,nl] 48 0 Ac Ac<|Ax<|An [Uk,nl,nl] 48 0 Ac Ac Ao) (An [Ah 3 0 (Aa c+1) (Aa c+1) Ab,nl,nl] 48 0 Ac Ac Ao) (hd:=by simp(disch:=omega) only[AW])<|vnil<|zD<|zC<|zE<|zA rfl<|vr 2 (i6 ((i:Int)+(1:Int)))<|vnil<|zC ?_;rotate_left;simp only[bne_eq_false_iff_eq]at hc;refine zJ<|zD<|zC<|zE<|zA rfl<|vr 2 (i6 ((i:Int)+(1:Int)))<|vnil<|zC ?_;rotate_left
  ·rw[if_pos (by simpa using hc)]at h4;refine⟨i+1,c++[i],⟨by omega,h4.symm⟩,by omega,?_⟩;rw[show nsD ((c++[i]).map λj=>A.getD j 0)=nsD (c.map λj=>A.getD j 0)++[iD (A.getD i 0:Nat)] by simp,zLx,A8];refine vk 5
  rw[if_neg (by simpa using hc),Bs]at h4;refine⟨i+1,c,⟨by omega,h4.symm⟩,by omega,?_⟩;refine vk 5
 have ec:c=zAu (λu=>decide ((u:Int)≠v)) A:=by
  rw[AA (by simpa using h3)]at h2;exact h2
 rw[<-ec]at hs⊢;clear h1 h2;refine zB<|zA rfl<|v0s<|veT<|zB<|vF ((i:Int)<(Aa A:Int))<|zT<|zM<|zM<|zR rfl<|zC<|zE<|zB<|zA rfl<|vrT 2<|vnil<|zC<|vnn (fr 108 [(0,trpD),(2,iD v),(4,Ai 0 0),(6,Ai 1 0),(7,Ah 4 0 (Aa c) (Aa c) Ab),(8,Ai 2 0),(11,Ba 5),(20,Ae (nsD A)<|Aa A),(21,iD (Aa A:Int)),(22,iD (i:Int)),(23,bD<|decide ((i:Int)<(Aa A:Int))),(41,Ba 5)]) [fB1K (Ae (nsD A)<|Aa A) (Ae (zAl l)<|Aa l)<|Ae (zAq l)<|Aa l,fB1K nl nl nl,fB1K (Ah 3 0 (Aa c) (Aa c) Ab) nl nl,intB<|nsD<|Ad (λ(j:Nat)=>Af A j 0) c,intB<|nsD c,An [] 262 0 Ab Ac<|Kd.map []] ?_;have hc0:=zFy c _ rfl;refine zAw (((Bb (j:=2) (i:=1) (rowB []) rfl rfl rfl rfl).trans (Bb (j:=2) (i:=2) (zGc []) rfl rfl rfl rfl)).trans<|Weak.osr (s:=7) (k:=4) (off:=0) (n:=c.length) (m:=c.length) (wh:=Ab) (cs:=nsD c) (by kernel_rfl) (show Aj (Ae (((nsD c).drop 0).take c.length) c.length,[4])=_ by rw[AY,hc0])) ?_;refine zB<|zB<|zA rfl<|v0s<|ve (True/\0<2)<|zF ?_;have hcl:∀j∈c,j<A.length:=λj h=>by
  rw[ec]at h;simpa using(A7.1 h).1
 generalize hL:(l.map λp=>(zP p.1 c,p.2))=L at*;have hLl:L.length=l.length:=by rw[<-hL];simp
 have hLg:∀i,i<l.length->L.getD i Ak=(zP ((l.map (·.1)).getD i []) c,(l.map (·.2)).getD i Ak):=λi hi=>by
  rw[<-hL];simp[Au,hi]
 refine zAo (λ(i:Nat)(K:List Rw)(W:List (Option Nat))=>fr 108 [(0,trpD),(4,Ai 0 0),(6,Ai 1 0),(7,D.osr 4 0 (Aa c) (Aa c) Ab<|nsD c),(8,Ai 2 0),(11,Ba 5),(43,Ae (zAl l)<|Aa l),(44,iD (Aa l:Int)),(45,iD (i:Int))]) (λ(i:Nat)(K:List Rw)(W:List (Option Nat))=>[fB1K (.row (nsD A) A.length) (.row (zAl l) l.length)<|.row (zAq l) l.length,fB1K nl nl nl,fB1K (.osl 3 0 c.length c.length Ab) (.osl 6 0 W.length W.length Ab)<|.osl 7 0 W.length (W.length*2) Ab,intB<|nsD (c.map λj=>A.getD j 0),⟨nsD c,3,1,Ab,Ab,.plain⟩,mapI K,rowB<|K.map rowV,zGc<|W.flatMap ckD]) (λi K W=>l.length-i) (λ(i:Nat)(K:List Rw)(W:List (Option Nat))=>i<=l.length/\K=(sumT Sk.add []<|L.take i).map (·.1)/\W=(sumT Sk.add []<|L.take i).map (·.2)) 0 [] [] ?_ ?_ ?_
 ·exact⟨by omega,by simp[sumT],by simp[sumT]⟩
 ·refine vk 8
 rintro i K W ⟨g1,g2,g3⟩;have hKW:W.length=K.length:=by rw[g2,g3];simp
 have hKl:K.length<=1000000:=by
  have:=zKx Sk.add (L.take i) ([]:List (Rw×(Option Nat)))
  rw[g2,AG];simp only[BS,B_]at this;omega
 rcases AF i l.length with h4|h4
 ·have hne:zAl l≠[]:=zX (h:=by simp;omega);have hne2:zAq l≠[]:=zCb zAv (by decide) (l.map (·.2)) (h:=by simp;omega);have hrow:(l.map (·.1)).getD i []∈l.map (·.1):=by
   rw[Au,AC (by simpa using h4)];exact AZ _
  obtain⟨p,hp,he⟩:=AD.1 hrow;have hlen2:=hl p hp;have hvs:=hv p hp;rw[he]at hlen2 hvs;have hsu:=zLg Sk.add L i (by omega);rw[hLg i h4]at hsu;have hk1:=congrArg (Ad (·.1)) hsu;have hw1:=congrArg (Ad (·.2)) hsu;simp only[zEn,<-g2]at hk1;simp only[zJe,<-g2,<-g3]at hw1;have hx1:=zY (l.map (·.1)) i (by simpa using h4);have hx2:=zA9 zAv (l.map (·.2)) i (by simpa using h4);have hx3:=zB5 zAv (l.map (·.2)) i (by simpa using h4);have hwm:(l.map (·.2)).getD i Ak∈l.map (·.2):=by
   rw[Au,AC (by simpa using h4)];exact AZ _
  obtain⟨p',hp',he'⟩:=AD.1 hwm;have hs3:=hs0 p' hp';rw[he']at hs3;have hsW:∀x∈W,okC x:=λx hx=>hs i x (by rw[<-g3];exact hx);generalize (l.map (·.1)).getD i []=row at*;generalize (l.map (·.2)).getD i Ak=w at*;have hk:=zJw row c _ _ rfl rfl (by rw[hlen2];exact hcl) hvs;have hpj:=zGq row c _ _ rfl rfl (by omega) (by omega) (by rw[hlen2];exact hcl);have hlk:=zZf K (zP row c);by_cases hm:zP row c∈K
  ·rw[if_pos hm]at hk1 hw1 hlk;have hid:=BN.2 hm;generalize K.idxOf (zP row c)=d at*;have hdm:W.getD d Ak∈W:=by rw[Au,AC (by omega)];exact AZ _
   have hy1:=zA9 zAv W d (by omega);have hy2:=zB5 zAv W d (by omega);have had:=tadd_c _ _ (hsW _ hdm) hs3;have hl1:=zAv (Sk.add (W.getD d Ak) w);have hst:=fl_set zAv W d (Sk.add (W.getD d Ak) w) (by omega);have hfl:=zCc zAv W;have hd1:d*2+2<=W.length*2:=by omega
   generalize Sk.add (W.getD d Ak) w=s at*;generalize W.getD d Ak=u at*;focus
    refine zB (zA rfl (v0s (veT (zB (vT ((i:Int)<(Aa l:Int)) (zJ (zC (zE (zB (zF (zB (zA rfl (vr 2 (ix (i:Int) (Aa l:Int) (zAl l≠[])) (vp 48 (i) (zAl l) (vr 1 (0<Aa (Ag i (zAl l))) (vsh 49 hx1 (veT (zB (zA rfl (vrT 2 (vc (hk) (veT (zB (zA rfl (vwh 3 [] [] (zS (AO (AP AQ "string" 1 16 Ab 8 8 (Aj (Aw (AR #[]))) Ab #[])) (Aw (bs (idR (zP row c))))=Ab/\Bi (Ad kyv K) (zS (AO (AP AQ "string" 1 16 Ab 8 8 (Aj (Aw (AR #[]))) Ab #[])))=Ab) ?_ ?_)))))))))))))))))))))))));rotate_left;refine vsh 56 hlk (ve (0<2/\1<2) (zB (zB (zA rfl (veT (vf (zJ (zC (zE (vd [0,2,3,4,6,9,11,14,15,16,1,5,7,8,10,12,13,17,18,19] (vr 13 (True/\True/\True/\0<1/\0<1/\(0:Int)<=(d:Int)/\(d:Int)<(Aa W:Int)) (vo0 93 7 (d*2) (vr 1 (2<=Aa (Ag (d*2) (Az (zGc (As ckD W))))) (vs 94 (Ar (Am 2 (Ag (d*2) (Az (zGc (As ckD W)))))) (Ar (ckD u)) (hd:=by simp(disch:=omega) only[hy1]) (vr 3 (0<1/\ix (i:Int) (Aa l:Int) (zAq l≠[])/\2<=Aa (Ag (i*2) (zAq l))) (vs 99 (Ar (Am 2 (Ag (i*2) (zAq l)))) (Ar (ckD w)) (hd:=by simp(disch:=omega) only[hx2]) (vc (had) (vr 1 ((0:Int)<=(d:Int)/\(d:Int)<(Aa W:Int)) (vo0 104 7 (d*2) ?_)))))))))))))))))));refine vwh 1 [] [] (A_ (zGc (As ckD W))=Ac/\Ab=Ab/\2=2/\d*2+2<=Aa (Az (zGc (As ckD W)))/\¬7∈[]) ?_ ?_;rotate_left;refine vnil (zD (zC (zE (zA rfl (vr 2 (i6 ((i:Int)+(1:Int))) (vnil (zC ?_)))))));rotate_left
   ·exact⟨rfl,zBt _⟩
   ·exact⟨rfl,rfl,rfl,by show _<=(W.flatMap ckD).length;omega,by decide⟩
   refine⟨i+1,K,W.set d s,⟨by omega,hk1.symm,hw1.symm⟩,by omega,?_⟩;refine wkn (fr 108 [(0,trpD),(4,Ai 0 0),(6,Ai 1 0),(7,D.osr 4 0 (Aa c) (Aa c) Ab (nsD c)),(8,Ai 2 0),(11,Ba 5),(12,iD (i:Int)),(13,Ae (zN row) (Aa row)),(14,Ay (Aw (bs (idR (zP row c))))),(15,iD (d:Int)),(43,Ae (zAl l) (Aa l)),(44,iD (Aa l:Int)),(45,iD (↑(i+1):Int)),(60,bD Ac),(86,Ai 2 2),(87,Ah 7 0 (Aa W) (Aa W*2) Ab),(88,iD (d:Int)),(89,Bl 30 (Ar [])),(90,Ai 2 2),(91,Ah 7 0 (Aa W) (Aa W*2) Ab),(92,iD (d:Int)),(93,Ai 7 (d*2)),(94,Ar (ckD u)),(95,Ai 0 2),(96,Ae (zAq l) (Aa l)),(97,iD (i:Int)),(98,D.ptr (Ag (i*2) (zAq l))),(99,Ar (ckD w)),(100,AS (Fn.method "Add") [Bl 30 (Ar [])] []),(101,AS (Fn.method "Add") [Bl 30 (Ar [])] []),(102,Bl 30 (Ar [])),(103,Ar [bD (Bm s),natD (Bn s 0)]),(104,Ai 7 (d*2)),(105,iD (↑(i+1):Int))]) [fB1K (Ae (nsD A) (Aa A)) (Ae (zAl l) (Aa l)) (Ae (zAq l) (Aa l)),fB1K nl nl nl,fB1K (Ah 3 0 (Aa c) (Aa c) Ab) (Ah 6 0 (Aa W) (Aa W) Ab) (Ah 7 0 (Aa W) (Aa W*2) Ab),intB (nsD (Ad (λ(j:Nat)=>Af A j 0) c)),An (nsD c) (3:TypeId) 1 Ab Ab Ao,mapI K,rowB (Ad rowV K),An (Ca (Ca (As ckD W) (d*2) (bD (Bm s))) (d*2+1) (natD (Bn s 0))) (54:TypeId) 2 Ab Ac Ao] ?_;rw[show(((W.flatMap ckD).set (d*2) (bD s.isNone)).set (d*2+1) (natD (s.getD 0)))=(W.set d s).flatMap ckD from hst,show(W.set d s).length=W.length by simp];refine vk 8
  rw[if_neg hm]at hk1 hw1 hlk;have hmp:=zY9 K (zP row c) hm;rw[<-hKW]at hmp;have hfl:=zCc zAv W;have hla:∀z:(Option Nat),((W.flatMap ckD++[bD z.isNone,natD (z.getD 0)]).drop (W.length*2)).take 2=[bD z.isNone,natD (z.getD 0)]:=λz=>by rw[Cx hfl];rfl
  have hlb:∀z:(Option Nat),2<=((W.flatMap ckD++[bD z.isNone,natD (z.getD 0)]).drop (W.length*2)).length:=λz=>by rw[Cx hfl];exact A2 _
  obtain⟨z,hz⟩:∃z:(Option Nat),z=none:=⟨_,rfl⟩;have hzc:=zSf;rw[<-hz]at hzc;have hca:=tadd_c z w (hz▸zokK) hs3;rw[show Sk.add z w=w by rw[hz];exact zadK w]at hca;have hlz:=zAv z;have hlw:=zAv w;focus
   refine zB (zA rfl (v0s (veT (zB (vT ((i:Int)<(Aa l:Int)) (zJ (zC (zE (zB (zF (zB (zA rfl (vr 2 (ix (i:Int) (Aa l:Int) (zAl l≠[])) (vp 48 (i) (zAl l) (vr 1 (0<Aa (Ag i (zAl l))) (vsh 49 hx1 (veT (zB (zA rfl (vrT 2 (vc (hk) (veT (zB (zA rfl (vwh 3 [] [] (zS (AO (AP AQ "string" 1 16 Ab 8 8 (Aj (Aw (AR #[]))) Ab #[])) (Aw (bs (idR (zP row c))))=Ab/\Bi (Ad kyv K) (zS (AO (AP AQ "string" 1 16 Ab 8 8 (Aj (Aw (AR #[]))) Ab #[])))=Ab) ?_ ?_)))))))))))))))))))))))));rotate_left;refine vsh 56 hlk (ve (0<2/\1<2) (zB (zB (zA rfl (veT (vt (zB (zA rfl (ve (True/\0<2) (zB (zA rfl (vwh 4 [] [] (A_ (mapI K)=Ac/\zS (AO (AP AQ "string" 1 16 Ab 8 8 (Aj (Aw (AR #[]))) Ab #[])) (Aw (bs (idR (zP row c))))=Ab/\Bi (Ad kyv K) (zS (AO (AP AQ "string" 1 16 Ab 8 8 (Aj (Aw (AR #[]))) Ab #[])))=Ab/\¬5∈[]) ?_ ?_))))))))))));rotate_left;refine vb 5 (mput (mapI K) (Ad kyv K) (Aw (bs (idR (zP row c)))) (iD (Aa W:Int))) (mapI (K++[zP row c])) (hd:=by simp(disch:=omega) only[hmp]) (veT (zB (zA rfl (vrT 2 (vc (hpj) (ve (0<2/\1<2) (zB (zA rfl (vr 7 (True/\0<2/\((1=1/\1<=1/\True)/\0<1/\1=1/\1<=16777216/\1<=9223372036854775807)/\(AV (rowB (Ad rowV K))=Ab/\Aa (Az (rowB (Ad rowV K)))=Aa W*1/\Aa W=Aa W*1/\AM (rowB (Ad rowV K))=110/\AN (rowB (Ad rowV K))=1/\1=1/\0<1/\0<24/\110=110/\(Aa W+1)*24<=140737488355328/\1=1/\AK (Ax (rowB (Ad rowV K)))=Ac/\(Ac=Ac\/AL (Ax (rowB (Ad rowV K)))=Ab))/\True/\A_ (An [Ah 3 0 (Aa c) (Aa c) Ab,Uk,Ah 7 0 (Aa W) (Aa W*2) Ab] 48 0 Ac Ac Ao)=Ac/\Ab=Ab/\1=1/\2<=3) (vb 2 (An [Ah 3 0 (Aa c) (Aa c) Ab,Ah 6 0 (Aa W+1) ((Aa W+1)*1) Ab,Ah 7 0 (Aa W) (Aa W*2) Ab] (AM (An [Ah 3 0 (Aa c) (Aa c) Ab,Uk,Ah 7 0 (Aa W) (Aa W*2) Ab] 48 0 Ac Ac Ao)) (AN (An [Ah 3 0 (Aa c) (Aa c) Ab,Uk,Ah 7 0 (Aa W) (Aa W*2) Ab] 48 0 Ac Ac Ao)) Ac Ac (Ax (An [Ah 3 0 (Aa c) (Aa c) Ab,Uk,Ah 7 0 (Aa W) (Aa W*2) Ab] 48 0 Ac Ac Ao))) (An [Ah 3 0 (Aa c) (Aa c) Ab,Ah 6 0 (Aa W+1) (Aa W+1) Ab,Ah 7 0 (Aa W) (Aa W*2) Ab] 48 0 Ac Ac Ao) (hd:=by simp(disch:=omega) only[AW]) ?_))))))))));refine veT (vd [0,2,1,3,4,5,6,7] (vr 3 (True/\0<1) (vc (hzc) (ve (((2=2/\2<=2/\True)/\0<2/\2=2/\2<=16777216/\1<=9223372036854775807)/\(AV (An (As ckD W) 54 2 Ab Ac Ao)=Ab/\Aa (As ckD W)=Aa W*2/\Aa W*2=Aa W*2/\AM (An (As ckD W) 54 2 Ab Ac Ao)=54/\AN (An (As ckD W) 54 2 Ab Ac Ao)=2/\2=2/\0<2/\0<32/\54=54/\(Aa W+1)*32<=140737488355328/\2=2/\AK (Ax (An (As ckD W) 54 2 Ab Ac Ao))=Ac/\(Ac=Ac\/AL (Ax (An (As ckD W) 54 2 Ab Ac Ao))=Ab))/\True/\A_ (An [Ah 3 0 (Aa c) (Aa c) Ab,Ah 6 0 (Aa W+1) (Aa W+1) Ab,Uk] 48 0 Ac Ac Ao)=Ac/\Ab=Ab/\1=1/\3<=3) (vd [0,2,3,4,6,9,11,14,15,16,1,5,7,8,10,12,13,17,18,19] (vr 13 (True/\True/\True/\0<1/\0<1/\(0:Int)<=(Aa W:Int)/\(Aa W:Int)<(↑(Aa W+1):Int)) (vo0 93 7 (Aa W*2) (vr 1 (2<=Aa (Ag (Aa W*2) (As ckD W++[bD (Bm z),natD (Bn z 0)]))) (vs 94 (Ar (Am 2 (Ag (Aa W*2) (As ckD W++[bD (Bm z),natD (Bn z 0)])))) (Ar [bD (Bm z),natD (Bn z 0)]) (hd:=by simp(disch:=omega) only[hla]) (vr 3 (0<1/\ix (i:Int) (Aa l:Int) (zAq l≠[])/\2<=Aa (Ag (i*2) (zAq l))) (vs 99 (Ar (Am 2 (Ag (i*2) (zAq l)))) (Ar (ckD w)) (hd:=by simp(disch:=omega) only[hx2]) ?_))) (by exact hlb _)))))))));refine vc (hca) (vr 1 ((0:Int)<=(Aa W:Int)/\(Aa W:Int)<(↑(Aa W+1):Int)) (vo0 104 7 (Aa W*2) ?_));refine vwh 1 [] [] (A_ (An (As ckD W++[bD (Bm z),natD (Bn z 0)]) 54 2 Ab Ac Ao)=Ac/\Ab=Ab/\2=2/\Aa W*2+2<=Aa (As ckD W++[bD (Bm z),natD (Bn z 0)])/\¬7∈[]) ?_ ?_;rotate_left;refine vnil (zD (zC (zE (zA rfl (vr 2 (i6 ((i:Int)+(1:Int))) (vnil (zC ?_)))))));rotate_left
  ·exact⟨rfl,zBt _⟩
  ·exact⟨rfl,rfl,zBt _,by decide⟩
  ·exact⟨rfl,rfl,rfl,by rw[A8,hfl];exact A2 _,by decide⟩
  refine⟨i+1,K++[zP row c],W++[w],⟨by omega,hk1.symm,hw1.symm⟩,by omega,?_⟩;refine wkn (fr 108 [(0,trpD),(4,Ai 0 0),(6,Ai 1 0),(7,D.osr 4 0 (Aa c) (Aa c) Ab (nsD c)),(8,Ai 2 0),(11,Ba 5),(12,iD (↑i:Int)),(15,iD (↑(Aa W):Int)),(43,Ae (zAl l) (Aa l)),(44,iD (↑(Aa l):Int)),(45,iD (↑(i+1):Int)),(86,Ai 2 2),(87,Ah 7 0 (Aa W+1) ((Aa W+1)*2) Ab),(88,iD (↑(Aa W):Int)),(89,Bl 30 (Ar [])),(90,Ai 2 2),(91,Ah 7 0 (Aa W+1) ((Aa W+1)*2) Ab),(92,iD (↑(Aa W):Int)),(93,Ai 7 (Aa W*2)),(94,Ar [bD (Bm z),natD (Bn z 0)]),(95,Ai 0 2),(96,Ae (zAq l) (Aa l)),(97,iD (↑i:Int)),(98,D.ptr (Ag (i*2) (zAq l))),(99,Ar (ckD w)),(100,AS (Fn.method "Add") [Bl 30 (Ar [])] []),(101,AS (Fn.method "Add") [Bl 30 (Ar [])] []),(102,Bl 30 (Ar [])),(103,Ar [bD (Bm w),natD (Bn w 0)]),(104,Ai 7 (Aa W*2)),(105,iD (↑(i+1):Int))]) [An [Ae (nsD A) (Aa A),Ae (zAl l) (Aa l),Ae (zAq l) (Aa l)] (48:TypeId) 0 Ac Ac Ao,An [nl,nl,nl] (48:TypeId) 0 Ac Ac Ao,An [Ah 3 0 (Aa c) (Aa c) Ab,Ah 6 0 (Aa W+1) (Aa W+1) Ab,Ah 7 0 (Aa W+1) ((Aa W+1)*2) Ab] 48 0 Ac Ac Ao,An (nsD (Ad (λ(j:Nat)=>Af A j 0) c)) (3:TypeId) 1 Ab Ac Ao,An (nsD c) (3:TypeId) 1 Ab Ab Ao,An (nsD (Av (Aa (K++[zP row c])))) (262:TypeId) 0 Ab Ac (Kd.map (Ad kyv (K++[zP row c]))),An (Ad rowV K++[Ae (zN (zP row c)) (Aa c)]) (110:TypeId) 1 Ab Ac Ao,An (Ca (Ca (As ckD W++[bD (Bm z),natD (Bn z 0)]) (Aa W*2) (bD (Bm w))) (Aa W*2+1) (natD (Bn w 0))) 54 2 Ab Ac Ao,An [Ae (zN (zP row c)) (Aa c)] 110 1 Ab Ac Ao,An [bD (Bm z),natD (Bn z 0)] 54 2 Ab Ac Ao] ?_;have hpl:(zP row c).length=c.length:=by simp[zP]
  rw[show(((W.flatMap ckD++[bD z.isNone,natD (z.getD 0)]).set (W.length*2) (bD w.isNone)).set (W.length*2+1) (natD (w.getD 0)))=(W++[w]).flatMap ckD from fl_snd zAv W z w,show(K++[zP row c]).map rowV=K.map rowV++[.row (zN (zP row c)) c.length] by rw[<-hpl];simp,show(W++[w]).length=W.length+1 by simp];refine vk 8
 have hn:Ndk (sumT Sk.add [] L):=zGm _ L [] (by simp[Ndk]);rw[AA (by omega)]at g2 g3;have hso:=zQt (c.map λj=>A.getD j 0) (sumT Sk.add [] L) (by rw[<-AG (f:=λp:Rw×(Option Nat)=>p.1),<-g2];exact hKl) (λp hp=>by
  have:=(zKy _ L [] p hp).resolve_left (by simp)
  obtain⟨q,hq,e⟩:=AD.1 this;rw[<-hL]at hq;obtain⟨q',_,rfl⟩:=AD.1 hq;rw[<-e];simp only[zP,AG];omega) hn
 have hT:(sumT Sk.add [] L).length=W.length:=by rw[g3,AG]
 have ht1:=zFy (c.map λj=>A.getD j 0) c.length (by simp);have ht2:(K.map rowV).take W.length=K.map rowV:=AA (by simp[hKW]);have ht3:(W.flatMap ckD).take (W.length*2)=W.flatMap ckD:=zBs zAv _ _ rfl;simp only[fcDK,zAl,zAq,<-g2,<-g3,hT]at hso;rw[AG]at hso;refine zB<|zA rfl<|v0s<|veT<|zB<|vF ((i:Int)<(Aa l:Int))<|zT<|zM<|zM<|zR rfl<|zC<|zE<|zB<|zA rfl<|vr 1 (3<=3)<|vcl [Ar [Ae (Am (Aa c)<|Ag 0<|Az<|intB<|nsD<|Ad (λ(j:Nat)=>Af A j 0) c)<|Aa c,Ae (Am (Aa W)<|Ag 0<|Az<|rowB<|Ad rowV K)<|Aa W,Ae (Am (Aa W*2)<|Ag 0<|Az<|zGc<|As ckD W)<|Aa W]] [Ar [Ae (nsD<|Ad (λ(j:Nat)=>Af A j 0) c)<|Aa c,Ae (Ad rowV K)<|Aa W,Ae (As ckD W)<|Aa W]] (LeL.of_eq (by simp(disch:=omega) only[AY,ht1,ht2,ht3])) (by exact hso)<|ve (Ac=Ac/\Ab=Ab/\3=3/\3<=3)<|zK<|vre (3<=3) (Ar [Ae (nsD<|Ad (λ(j:Nat)=>Af A j 0) c)<|Aa c,Ae (Ad rowV<|Ad (λ(x:Rw×Option Nat)=>AE x)<|srtL<|sumT (Sr.add Sk) [] L)<|Aa<|srtL<|sumT (Sr.add Sk) [] L,Ae (As ckD<|Ad (λ(x:Rw×Option Nat)=>A0 x)<|srtL<|sumT (Sr.add Sk) [] L)<|Aa<|srtL<|sumT (Sr.add Sk) [] L]) (.inr rfl) (by simp)
end
section
open Go.RowKit
theorem zBn(V:List Int)(i:Nat)(h:i<V.length:=by omega):((V.map λz=>iD z).drop i).headD .unk=iD (V.getD i 0):=by simp_all
theorem zAx{α:Type}(l:List α)(d:α)(k:Nat)(h:k<l.length):l.getD k d∈l:=by grind
def zDj(n:Int)(V:List Int)(i:Nat):Bool:=decide (0<=V.getD i 0)&&(decide (V.getD i 0<n)&&(decide (i=0)||decide (V.getD (i-1) 0<V.getD i 0)))
def zG0(R:List Rw)(i:Nat):Bool:=decide (i=0)||decide (rcmp (R.getD (i-1) []) (R.getD i [])<0)
def chk(n:Int)(V:List Int)(R:List Rw)(m:Nat):Int:=
 if(Av V.length).all (zDj n V)=Ac then 3 else if R.length≠m then 6 else if R.all (λx=>decide (x.length=V.length))=Ac then 6 else if R.all (λx=>x.all vok)=Ac then 4 else if(Av R.length).all (zG0 R)=Ac then 16 else 0
theorem zYj{p:Nat->Bool}{n i:Nat}(h:i<n)(hp:p i=Ac):(Av n).all p=false:=by
 grind
theorem zFf{p:Nat->Bool}{n:Nat}(h:∀j,j<n->p j=Ab):(Av n).all p=true:=by
 grind
theorem zF1{n:Int}{V:List Int}{i:Nat}(h3:i=0\/V.getD (i-1) 0<V.getD i 0)(h1:0<=V.getD i 0:=by omega)(h2:V.getD i 0<n:=by omega):zDj n V i=true:=by
 simp only[zDj,A6,BK,decide_eq_true_eq];exact⟨h1,h2,h3⟩
theorem chk_v{n:Int}{V:List Int}{R:List Rw}{m i:Nat}(h:i<V.length)(hp:zDj n V i=Ac):chk n V R m=3:=by
 grind [chk,zYj]
theorem chk_l{n:Int}{V:List Int}{R:List Rw}{m:Nat}(hv:(Av V.length).all (zDj n V)=Ab)(h:R.length≠m):chk n V R m=6:=by
 grind [chk]
theorem chk_a{n:Int}{V:List Int}{R:List Rw}{m i:Nat}(hv:(Av V.length).all (zDj n V)=Ab)(hl:R.length=m)(h:i<R.length)(hp:(R.getD i []).length≠V.length):chk n V R m=6:=by
 unfold chk;grind
theorem chk_o{n:Int}{V:List Int}{R:List Rw}{m i:Nat}(hv:(Av V.length).all (zDj n V)=Ab)(hl:R.length=m)(ha:R.all (λx=>decide (x.length=V.length))=Ab)(h:i<R.length)(hp:(R.getD i []).all vok=Ac):chk n V R m=4:=by
 unfold chk;grind
theorem chk_s{n:Int}{V:List Int}{R:List Rw}{m i:Nat}(hv:(Av V.length).all (zDj n V)=Ab)(hl:R.length=m)(ha:R.all (λx=>decide (x.length=V.length))=Ab)(ho:R.all (λx=>x.all vok)=Ab)(h:i<R.length)(hp:zG0 R i=Ac):chk n V R m=16:=by
 grind [chk,zYj]
theorem chk_0{n:Int}{V:List Int}{R:List Rw}{m:Nat}(hv:(Av V.length).all (zDj n V)=Ab)(hl:R.length=m)(ha:R.all (λx=>decide (x.length=V.length))=Ab)(ho:R.all (λx=>x.all vok)=Ab)(hs:(Av R.length).all (zG0 R)=Ab):chk n V R m=0:=by
 grind [chk]
theorem zDg{α:Type}{p:α->Bool}{l:List α}{d:α}{i:Nat}(h:l.length<=i)(hh:∀j,j<i->j<l.length->p (l.getD j d)=Ab):l.all p=true:=by
 grind [Bc,CF,AC]
structure Fit(n:Int)(A:List Nat)(R:List Rw)(m:Nat):Prop where
 asc:A.Pairwise (· <·)
 lt:∀v∈A,(v:Int)<n
 m:R.length=m
 len:∀r∈R,r.length=A.length
 vok:∀r∈R,r.all vok=Ab
 srt:R.Pairwise λp q=>rcmp p q<0
theorem zLv{α:Type}{q:α->α->Prop}(tr:∀a b c,q a b->q b c->q a c){d:α}:∀{l:List α},(∀i,i+1<l.length->q (l.getD i d) (l.getD (i+1) d))->l.Pairwise q
 |[],_=>List.Pairwise.nil
 |[a],_=>by simp
 |a::b::l,h=>by
  have h0:q a b:=h 0 (by simp);have ih:(b::l).Pairwise q:=zLv tr (d:=d) λi hi=>h (i+1) (by simpa using hi);grind [List.pairwise_cons]
theorem zC9{n:Int}{V:List Int}{R:List Rw}{m:Nat}(h:chk n V R m=0):∃A:List Nat,V=A.map (λv:Nat=>(v:Int))/\Fit n A R m:=by
 unfold chk at h;split at h
 ·cases h
 rename_i h1;split at h
 ·cases h
 rename_i h2;split at h
 ·cases h
 rename_i h3;split at h
 ·cases h
 rename_i h4;split at h
 ·cases h
 rename_i h5;simp only[Bool.not_eq_false,Bc,Cy,decide_eq_true_eq]at h1 h3 h4 h5;have hs:∀i,i<V.length->0<=V.getD i 0/\V.getD i 0<n/\(i=0\/V.getD (i-1) 0<V.getD i 0):=λi hi=>by
  have:=h1 i hi
  simpa only[zDj,A6,BK,decide_eq_true_eq]using this
 have hV:V=(V.map A5).map (λv:Nat=>(v:Int)):=by
  apply B1 (by simp);grind
 have hget:∀i,i<V.length->(V.getD i 0)=((V.map A5).getD i 0:Nat):=λi hi=>by
  grind
 refine⟨V.map A5,hV,?_,λv hv=>?_,by simpa using h2,λr hr=>by simpa using h3 r hr,λr hr=>by simpa[Bc]using h4 r hr,?_⟩
 ·refine zLv (q:=λa b:Nat=>a<b) (d:=0) (λa b c h k=>Nat.lt_trans h k) λi hi=>?_;grind
 ·obtain⟨u,hu,rfl⟩:=AD.1 hv;obtain⟨i,hi,rfl⟩:=CF.1 hu
  have:=(hs i hi)
  grind
 refine zLv (d:=[]) zSs λi hi=>?_;grind [zG0]
end
section
open Go.RowKit
set_option maxRecDepth 100000
structure Raw where
 V:List Int
 R:List Rw
 W:List Int
 deriving Inhabited
abbrev rawC(f:Raw):List D:=[.row (f.V.map iD) f.V.length, .row (f.R.map rowV) f.R.length, .row (f.W.map iD) f.W.length]
theorem zPj(f:Raw):(rawC f).length=3:=rfl
abbrev rawD(f:Raw):D:= .agg (rawC f)
def Vi(a:Va):Prop:=inK .i64 a.kind/\inK .i64 a.int/\a.str.length<=maxLen
structure RawOk(f:Raw):Prop where
 v:∀z∈f.V,inK .i64 z
 r:∀x∈f.R,∀a∈x,Vi a
 w:∀z∈f.W,inK .i64 z
theorem zZq{P:Program}{n:Nat}{t e:TypeId}(hu:P.underlying t=Aj (.slice e))(he:P.underlying e=Aj (.int .i64)){ds:List D}(h:Shp P n t ds):∃l:List Int,ds=[.row (l.map iD) l.length]/\∀z∈l,inK .i64 z:=by
 obtain⟨m,ls,rfl,h1,_⟩:=zHt hu h;obtain⟨bs,h2,h3,h4⟩:=zL7 (g:=λz:Int=>iD z) (Q:=λx=>inK .i64 x) λx hx=>by
  obtain⟨z,rfl,h5⟩:=zPb he (h1 x hx);exact⟨z,rfl,h5⟩
 exact⟨bs,by rw[h2,<-h3],h4⟩
theorem len3{α:Type}{l:List α}(h:l.length=3):∃a b c,l=[a,b,c]:=by
 match l,h with
 |[a,b,c],_=>exact⟨a,b,c,rfl⟩
theorem in_va{n:Nat}{ds:List D}(h:Shp Al n 107 ds):∃a:Va,ds=vaC a/\Vi a:=by
 obtain⟨hl,m,hf⟩:=zM6 Tryz.underlying107 h;rw[show Al.cellsOf 107=3 by kernel_rfl]at hl;obtain⟨a,b,c,rfl⟩:=len3 hl;have c3:Al.cellsOf 3=1:=by kernel_rfl
 have c4:Al.cellsOf 2=1:=by kernel_rfl
 have c5:Al.cellsOf 9=1:=by kernel_rfl
 simp only[Bg,List.not_mem_nil,or_false,forall_eq_or_imp,forall_eq,c3,c4,c5,AY,List.drop_succ_cons,Cm,List.take_zero]at hf;obtain⟨g0,g1,g2⟩:=hf;obtain⟨x2,e2,k2⟩:=zPb Tryz.underlying3 g0;obtain⟨x3,e3,k3⟩:=zPb Tryz.underlying2 g1;obtain⟨x4,e4,k4⟩:=zW7 Tryz.underlying9 g2;simp only[List.cons.injEq,and_true]at e2 e3 e4;subst e2 e3 e4;exact⟨⟨x2,x3,x4.data.toList⟩,rfl,k2,k3,k4⟩
theorem in_row{n:Nat}{ds:List D}(h:Shp Al n 110 ds):∃x:Rw,ds=[rowV x]/\∀a∈x,Vi a:=by
 obtain⟨m,ls,rfl,h1,_⟩:=zHt Tryz.underlying110 h;obtain⟨bs,h2,h3,h4⟩:=zL8 (g:=vaC) (Q:=Vi) λx hx=>in_va (h1 x hx);exact⟨bs,by rw[h2,<-h3];rfl,h4⟩
theorem in_raw{n:Nat}{ds:List D}(h:Shp Al n 42 ds):∃f:Raw,ds=rawC f/\RawOk f:=by
 obtain⟨hl,m,hf⟩:=zM6 Tryz.underlying42 h;rw[show Al.cellsOf 42=3 by kernel_rfl]at hl;obtain⟨a,b,c,rfl⟩:=len3 hl;have c3:Al.cellsOf 39=1:=by kernel_rfl
 have c4:Al.cellsOf 40=1:=by kernel_rfl
 simp only[Bg,List.not_mem_nil,or_false,forall_eq_or_imp,forall_eq,c3,c4,AY,List.drop_succ_cons,Cm,List.take_zero]at hf;obtain⟨g0,g1,g2⟩:=hf;obtain⟨V,e0,k0⟩:=zZq Tryz.underlying39 Tryz.underlying3 g0;obtain⟨W,e2,k2⟩:=zZq Tryz.underlying39 Tryz.underlying3 g2;obtain⟨m',ls,e1,h1,_⟩:=zHt Tryz.underlying40 g1;obtain⟨R,r2,r3,r4⟩:=zL7 (g:=rowV) (Q:=λx=>∀a∈x,Vi a) λx hx=>in_row (h1 x hx);simp only[List.cons.injEq,and_true]at e0 e1 e2;subst e0 e1 e2;exact⟨⟨V,R,W⟩,by rw[r2,<-r3],k0,r4,k2⟩
theorem arg_raws{d:D}(h:ArgD Al 22 d):∃l:List Raw,d= .row (l.flatMap rawC) l.length/\∀f∈l,RawOk f:=by
 obtain⟨n,hs⟩:=h.cell (by kernel_rfl);obtain⟨m,ls,e,h1,_⟩:=zHt Tryz.underlying22 hs;obtain⟨fs,h2,h3,h4⟩:=zL8 (g:=rawC) (Q:=RawOk) λx hx=>in_raw (h1 x hx);simp only[List.cons.injEq,and_true]at e;exact⟨fs,by rw[e,h2,<-h3,List.flatMap_def],h4⟩
theorem arg_int{d:D}(h:ArgD Al 3 d):∃z:Int,d=iD z/\inK .i64 z:=by
 obtain⟨n,hs⟩:=h.cell (by kernel_rfl);obtain⟨z,e,hz⟩:=zPb Tryz.underlying3 hs;simp only[List.cons.injEq,and_true]at e;exact⟨z,e,hz⟩
theorem zKo(k:Nat):((k+1:Nat):Int)-1=(k:Int):=by omega
end
section
open Go.RowKit
attribute [local irreducible] seqW awp zAe zAh zAb Weak updS zAs retL Pure Acts rP setP setQ cP nP fr
set_option maxRecDepth 4096
abbrev fcR(V:List Int)(R:List Rw)(W:List Nat):D:= .agg [.row (V.map λz=>iD z) V.length, .row (R.map rowV) R.length, .row (W.map natD) W.length]
abbrev q7_:=Ay (AI BE 4)
set_option maxHeartbeats 4000000 in
theorem check_c(n:Int)(V:List Int)(R:List Rw)(W:List Nat)(hV:V.length<=1000000)(hR:R.length<=1000000):
    Pure Al 86 [iD n,fcR V R W] [] (iD (chk n V R W.length)):=by
  obtain⟨m,hm⟩:∃m,m=W.length:=⟨_,rfl⟩;refine zH zQg mixed Tryz.func86 rfl<|vAu<|zB<|vA<|ve (True/\0<3)<|zF<|zQ (λ(i:Nat)=>fr 94 [(0,iD n),(3,Ai 0 0),(13,Ae (Ad (λ(z:Int)=>iD z) V)<|Aa V),(14,iD (Aa V:Int)),(15,iD (i:Int))]) (λ(i:Nat)=>[fB1 (.row (V.map λz=>iD z) V.length) (.row (R.map rowV) R.length)<|.row (W.map natD) W.length]) (λi=>V.length-i) (λ(i:Nat)=>i<=V.length/\∀j,j<i->zDj n V j=Ab) 0 ?_ ?_ ?_
  ·exact⟨by omega,λj h=>by omega⟩
  ·refine vk 1
  rintro i ⟨h1,h2⟩;rcases AF i V.length with h3|h3
  · have hne:(V.map λz=>iD z)≠[]:=zX
    have hx:=zBn V i (h:=h3);by_cases hs:zDj n V i=Ab
    · have hs2:=hs
      simp only[zDj,A6,BK,decide_eq_true_eq]at hs2;obtain⟨s1,s2,s3⟩:=hs2;rcases i with _|k
      · rw[AY]at hx
        refine vAu<|zB<|vT ((↑(0:Nat):Int)<↑(Aa V))<|vKB<|vA<|vr 3 (ix ↑(0:Nat) ↑(Aa V) (Ad (λ(z:Int)=>iD z) V≠[])/\0<Aa (Ad (λ(z:Int)=>iD z) V))<|vsh 19 hx<|veT<|vA<|vew [] [(2,Ac),(7,Ac)] (decide (Af V 0 (0:Int)<0)=Ac/\decide (Af V 0 (0:Int)>=n)=Ac) (vf<|zJ<|zD<|vN<|zA rfl<|vr 2 (i6 (↑(0:Nat)+1))<|vnil<|zC ?_) ⟨(by exact decide_eq_false (by omega)),(by exact decide_eq_false (by omega))⟩;refine⟨1,⟨by omega,λj hj=>?_⟩,by omega,?_⟩
        · obtain rfl:j=0:=by omega
          exact hs
        refine vk 1
      · have hx2:=zBn V k
        have s4:V.getD k 0<V.getD (k+1) 0:=by
          rcases s3 with h|h
          ·omega
          exact h
        refine vAu<|zB<|vT ((↑(k+1):Int)<↑(Aa V))<|vKB<|vA<|vr 2 (ix ↑(k+1) ↑(Aa V) (Ad (λ(z:Int)=>iD z) V≠[]))<|vp 18 (k+1) (Ad (λ(z:Int)=>iD z) V)<|vr 1 (0<Aa (Ag (k+1)<|Ad (λ(z:Int)=>iD z) V))<|vsh 19 hx<|veT<|vA<|vw 15 [] [(2,Ac),(7,Ac),(10,Ab)] (decide (Af V (k+1) (0:Int)<0)=Ac/\decide (Af V (k+1) (0:Int)>=n)=Ac/\decide ((↑(k+1):Int)>(0:Int))=Ab/\True/\0<3/\i6 (↑(k+1)-1)) (vs 34 (iD (↑(k+1)-1)) (iD k) (hd:=by simp(disch:=omega) only[zKo])<|vr 1 (ix ↑k ↑(Aa V) (Ad (λ(z:Int)=>iD z) V≠[]))<|vp 35 k (Ad (λ(z:Int)=>iD z) V)<|vr 1 (0<Aa (Ag k<|Ad (λ(z:Int)=>iD z) V))<|vsh 36 hx2<|veT<|vF (Af V k (0:Int)>=Af V (k+1) (0:Int)) ?_) ⟨(by exact decide_eq_false (by omega)),(by exact decide_eq_false (by omega)),(by exact decide_eq_true (by omega)),trivial,(by omega),(by omega)⟩;refine zJ<|zD<|vN<|zA rfl<|vr 2 (i6 (↑(k+1)+1))<|vnil<|zC<|⟨k+2,⟨by omega,λj hj=>?_⟩,by omega,?_⟩
        · rcases AF j (k+1)with h|h
          ·exact h2 j h
          · obtain rfl:j=k+1:=by omega
            exact hs
        refine vk 1
    · have hc3:chk n V R W.length=3:=chk_v h3 (by simpa using hs)
      rw[hc3];rcases i with _|k
      · rw[AY]at hx
        focus
          refine vAu<|zB<|vT ((↑(0:Nat):Int)<↑(Aa V))<|vKB<|vA<|vr 3 (ix ↑(0:Nat) ↑(Aa V) (Ad (λ(z:Int)=>iD z) V≠[])/\0<Aa (Ad (λ(z:Int)=>iD z) V))<|vsh 19 hx<|veT<|vA<|vrT 3<|vspD 22 (Af V 0 (0:Int)<0) (λhc=>?_)<|λhc=>?_;refine veT<|vt<|vAe<|zK<|zL<|zG<|zG<|zL<|zG<|vret (True)<|.inr rfl;refine vrT 5<|vspD 27 (Af V 0 (0:Int)>=n) (λhc=>?_)<|λhc=>?_;refine veT<|vt<|vAe<|zK<|zL<|zG<|zG<|zL<|zG<|vret (True)<|.inr rfl;refine veT<|vf<|zJ<|zD<|vN<|zA rfl<|vr 2 (i6 (↑(0:Nat)+1))<|vnil<|zC ?_;rotate_left
        all_goals exact absurd (zF1 (.inl rfl)) hs
      · have hx2:=zBn V k
        focus
          refine vAu<|zB<|vT ((↑(k+1):Int)<↑(Aa V))<|vKB<|vA<|vr 2 (ix ↑(k+1) ↑(Aa V) (Ad (λ(z:Int)=>iD z) V≠[]))<|vp 18 (k+1) (Ad (λ(z:Int)=>iD z) V)<|vr 1 (0<Aa (Ag (k+1)<|Ad (λ(z:Int)=>iD z) V))<|vsh 19 hx<|veT<|vA<|vrT 3<|vspD 22 (Af V (k+1) (0:Int)<0) (λhc=>?_)<|λhc=>?_;refine veT<|vt<|vAe<|zK<|zL<|zG<|zG<|zL<|zG<|vret (True)<|.inr rfl;refine vrT 5<|vspD 27 (Af V (k+1) (0:Int)>=n) (λhc=>?_)<|λhc=>?_;refine veT<|vt<|vAe<|zK<|zL<|zG<|zG<|zL<|zG<|vret (True)<|.inr rfl;refine vw 7 [] [(10,Ab)] (decide ((↑(k+1):Int)>(0:Int))=Ab/\True/\0<3/\i6 (↑(k+1)-1))<|vs 34 (iD (↑(k+1)-1)) (iD k) (hd:=by simp(disch:=omega) only[zKo])<|vr 1 (ix ↑k ↑(Aa V) (Ad (λ(z:Int)=>iD z) V≠[]))<|vp 35 k (Ad (λ(z:Int)=>iD z) V)<|vr 1 (0<Aa (Ag k<|Ad (λ(z:Int)=>iD z) V))<|vsh 36 hx2<|veT<|vcD (Af V k (0:Int)>=Af V (k+1) (0:Int)) (λhc=>?_)<|λhc=>?_;refine vAe<|zK<|zL<|zG<|zG<|zL<|zG<|vret (True)<|.inr rfl;refine zJ<|zD<|vN<|zA rfl<|vr 2 (i6 (↑(k+1)+1))<|vnil<|zC ?_;rotate_left
        all_goals exact absurd (zF1 (.inr (by simp only[Nat.add_sub_cancel];omega))) hs
  have hv:=zFf (p:=zDj n V) (n:=V.length) λj hj=>h2 j (by omega);by_cases hlm:R.length=W.length;case neg=>
    rw[chk_l hv hlm];refine vAu<|zB<|vF ((i:Int)<↑(Aa V))<|vZ2<|zB<|vA<|ve (True/\0<2/\True/\0<1/\True)<|zD2 (t:=(Aa R:Int)!=(Aa W:Int)) (by kernel_rfl) (by simpa using by omega)<|vAe<|zK<|zG<|vret (True)<|.inr rfl
  refine vAu<|zB<|vF ((i:Int)<↑(Aa V))<|vZ2<|zB<|vA<|ve (True/\0<2/\True/\0<1/\True)<|zG9 (t:=(Aa R:Int)!=(Aa W:Int)) (by kernel_rfl) (by simpa using by omega)<|vK<|zB<|vA<|ve (True/\0<2)<|zF<|zQ (λ(i:Nat)=>fr 94 [(3,Ai 0 0),(50,Ae (Ad rowV R)<|Aa R),(51,iD<|Aa R),(52,iD i)]) (λ(i:Nat)=>[fB1 (.row (V.map λz=>iD z) V.length) (.row (R.map rowV) R.length)<|.row (W.map natD) W.length]) (λi=>R.length-i) (λ(i:Nat)=>i<=R.length/\∀j,j<i->j<R.length->decide ((R.getD j []).length=V.length)=Ab) 0 ?_ ?_ ?_
  ·exact⟨by omega,λj h=>by omega⟩
  ·refine vk 1
  clear h1 h2 h3 i;rintro i ⟨h1,h2⟩;rcases AF i R.length with h3|h3
  · have hne:R.map rowV≠[]:=zX
    have hx:=zY R i h3;have hca:=chk_a hv hlm h3;generalize hg:R.getD i []=r at*;focus
      refine vAu<|zB<|vT ((i:Int)<↑(Aa R))<|vKB<|vA<|vr 1 (ix ↑i ↑(Aa R) (Ad rowV R≠[]))<|vp 54 i (Ad rowV R)<|vr 1 (0<Aa (Ag i<|Ad rowV R))<|vsh 55 hx<|veT<|vA<|ve (True/\0<3/\True)<|zAa (t:=(Aa r:Int)!=(Aa V:Int)) (by kernel_rfl) (λhc=>?_)<|λhc=>?_;simp only[bne_iff_ne]at hc;refine vAe<|zK<|zL<|zG<|zG<|zL<|zG<|vre (True) (Ay<|AI BE 6) (.inr rfl) ?_;rotate_left;simp only[bne_eq_false_iff_eq]at hc;refine zJ<|zD<|vN<|zA rfl<|vr 2 (i6 (↑i+1))<|vnil<|zC ?_;rotate_left
    ·rw[hca (by omega)]
    · refine⟨i+1,⟨by omega,λj hj hjl=>?_⟩,by omega,?_⟩
      · rcases AF j i with h|h
        ·exact h2 j h hjl
        · obtain rfl:j=i:=by omega
          rw[hg];exact decide_eq_true (by omega)
      refine vk 1
  have ha:=zDg (p:=λx:Rw=>decide (x.length=V.length)) (d:=[]) h3 h2;have hl:∀x∈R,x.length<=1000000000:=λx hx=>by
    have:=of_decide_eq_true (Bc.1 ha x hx)
    omega
  refine vAu<|zB<|vF ((i:Int)<↑(Aa R))<|vZ2<|zB<|vA<|ve (True/\0<2)<|zF<|zQ (λ(i:Nat)=>fr 94 [(3,Ai 0 0),(64,(q5_ R)),(65,iD<|Aa R),(66,iD i)]) (λ(i:Nat)=>[fB1 (.row (V.map λz=>iD z) V.length) (.row (R.map rowV) R.length)<|.row (W.map natD) W.length]) (λi=>R.length-i) (λ(i:Nat)=>i<=R.length/\∀j,j<i->j<R.length->(R.getD j []).all vok=Ab) 0 ?_ ?_ ?_
  ·exact⟨by omega,λj h=>by omega⟩
  ·refine vk 1
  clear h1 h2 h3 i;rintro i ⟨h1,h2⟩;rcases AF i R.length with h3|h3
  · have hne:R.map rowV≠[]:=zX
    have hx:=zY R i h3;have hco:=chk_o hv hlm ha h3;have hlr:=hl _ (zAx R [] i h3);generalize hg:R.getD i []=r at*;focus
      refine vAu<|zB<|vT ((i:Int)<↑(Aa R))<|vKB<|vA<|vr 1 (ix ↑i ↑(Aa R) (Ad rowV R≠[]))<|vp 68 i (Ad rowV R)<|vr 1 (0<Aa (Ag i<|Ad rowV R))<|vsh 69 hx<|veT<|vA<|vrT 1<|vc (zPd r _ rfl (by omega))<|veT<|zAa (t:=!List.all r vok) (by kernel_rfl) (λhc=>?_)<|λhc=>?_;simp only[Ci]at hc;refine vAe<|zK<|zL<|zG<|zG<|zL<|zG<|vre (True) (q7_) (.inr rfl) ?_;rotate_left;simp only[Cs]at hc;refine zJ<|zD<|vN<|zA rfl<|vr 2 (i6 (↑i+1))<|vnil<|zC ?_;rotate_left
    ·rw[hco (by simpa using hc)]
    · refine⟨i+1,⟨by omega,λj hj hjl=>?_⟩,by omega,?_⟩
      · rcases AF j i with h|h
        ·exact h2 j h hjl
        · obtain rfl:j=i:=by omega
          rw[hg];simpa using hc
      refine vk 1
  have ho:=zDg (p:=λx:Rw=>x.all vok) (d:=[]) h3 h2;refine vAu<|zB<|vF ((i:Int)<↑(Aa R))<|vZ2<|zB<|vAe<|zF<|zQ (λ(k:Nat)=>fr 94 [(3,Ai 0 0),(11,iD (↑k+1))]) (λ(k:Nat)=>[fB1 (.row (V.map λz=>iD z) V.length) (.row (R.map rowV) R.length)<|.row (W.map natD) W.length]) (λk=>R.length-k) (λ(k:Nat)=>k<=R.length/\∀j,j<=k->j<R.length->zG0 R j=Ab) 0 ?_ ?_ ?_
  · exact ⟨by omega, fun j h _ => by obtain rfl:j=0:=by omega
                                     rfl⟩
  ·refine vk 1
  clear h1 h2 h3 i;rintro k ⟨h1,h2⟩;rcases AF (k+1) R.length with h3|h3
  · have hne:R.map rowV≠[]:=zX
    have hx:=zY R (k+1) h3;have hx0:=zY R k (by omega);have hcs:=chk_s hv hlm ha ho h3;have hst:zG0 R (k+1)=decide (rcmp (R.getD k []) (R.getD (k+1) [])<0):=by simp[zG0]
    have hcm:=zD8 (R.getD k []) (R.getD (k+1) []) _ _ rfl rfl (hl _ (zAx R [] k (by omega))) (hl _ (zAx R [] (k+1) h3));generalize R.getD (k+1) []=r at*;generalize R.getD k []=r0 at*;focus
      refine zB<|vAs<|ve (True/\0<2)<|vT ((↑(k+1):Int)<↑(Aa R))<|vKB<|zB<|vd [0,2,3,6,8,1,4,5,7,9,10,11,12]<|vr 3 (True/\i6 (↑(k+1)-1))<|vs 84 (iD (↑(k+1)-1)) (iD k) (hd:=by simp(disch:=omega) only[zKo])<|vr 4 (True/\0<2/\ix ↑k ↑(Aa R) (Ad rowV R≠[]))<|vp 85 k (Ad rowV R)<|vr 1 (0<Aa (Ag k<|Ad rowV R))<|vsh 86 hx0<|vr 2 (0<2/\ix ↑(k+1) ↑(Aa R) (Ad rowV R≠[]))<|vp 90 (k+1) (Ad rowV R)<|vr 1 (0<Aa (Ag (k+1)<|Ad rowV R))<|vsh 91 hx<|vc hcm<|veT<|vcD (rcmp r0 r>=(0:Int)) (λhc=>?_)<|λhc=>?_;refine vAe<|zK<|zL<|zG<|zG<|zL<|zG<|vre (True) (Ay<|AI BE 16) (.inr rfl) ?_;rotate_left;refine zJ<|zD<|vN<|zA rfl<|vr 3 (i6 (↑(k+1)+1))<|vnil<|zC ?_;rotate_left
    ·rw[hcs (by rw[hst];exact decide_eq_false (by omega))]
    · refine⟨k+1,⟨by omega,λj hj hjl=>?_⟩,by omega,?_⟩
      · rcases AF j (k+1)with h|h
        ·exact h2 j (by omega) hjl
        · obtain rfl:j=k+1:=by omega
          rw[hst];exact decide_eq_true (by omega)
      refine vk 1
  rw[chk_0 hv hlm ha ho (zFf λj hj=>h2 j (by omega) hj)];refine zB<|vAs<|ve (True/\0<2)<|vF ((k:Int)+(1:Int)<(Aa R:Int))<|vZ2<|vAe<|zK<|vret (True)<|.inr rfl
end
section
open Go.RowKit
section
variable {A B : List Nat} {la lb : List (Rw × Nat)}
end
def ixI(V:List Int)(v:Int):Int:=if v∈V then(V.idxOf v:Nat)else-1
abbrev intL(A:List Nat):List Int:=A.map λv:Nat=>(v:Int)
theorem ixI_yes{V:List Int}{v:Int}{i:Nat}(h:i<V.length)(hi:V.getD i 0=v)(hb:∀j,j<i->V.getD j 0≠v):ixI V v=(i:Int):=by
 induction V generalizing i with
 |nil=>simp at h
 | cons a V ih=>
  cases i with
  |zero=>
   have hi:a=v:=hi;subst hi;simp[ixI]
  | succ i=>
   have h0:a≠v:=hb 0 (by omega)
   have:=ih (i:=i) (by simpa using h) hi (λj hj=>hb (j+1) (by omega))
   unfold ixI at this⊢;have h1:(a==v)=false:=by simpa using h0
   by_cases hm:v∈V
   ·rw[if_pos hm]at this;rw[if_pos (BB _ hm),Cr,h1];simp only[cond_false];omega
   rw[if_neg hm]at this;omega
theorem ixI_no{V:List Int}{v:Int}(hb:∀j,j<V.length->V.getD j 0≠v):ixI V v=-1:=by
 unfold ixI;rw[if_neg];intro hm;obtain⟨i,hi,e⟩:=CF.1 hm;refine hb i hi ?_;rw[Au,AC hi,BW,e]
end
section
open Go.RowKit
attribute [local irreducible] seqW awp zAe zAh zAb Weak updS zAs retL Pure Acts rP setP setQ cP nP fr
set_option maxRecDepth 4096
abbrev faAc(f:Fa Nat):List D:=fcC (f.A,f.l)
abbrev faA(f:Fa Nat):D:=fcD f.A f.l
theorem zA7(f:Fa Nat):(faAc f).length=3:=rfl
def Okv(Dm:List Va):Prop:=∀a∈Dm,vok a=Ab/\Vs a
structure Gof(Dm:List Va)(f:Fa Nat):Prop where
 ok:FOk rcmp Dm f
 r:rz f<=900000
 v:vz f<=4000000000000000000
section
variable {Dm : List Va} (hD : Okv Dm)
theorem sm_le{f:Fa Nat}(hv:vz f<=4000000000000000000):∀p∈f.l,Sm p.2:=λp hp=>Sm.of (by
 have:=zW6 hp
 unfold vz at hv;omega)
theorem Gof.fv{f:Fa Nat}(h:Gof Dm f)(hD:Okv Dm):FV (f.A,f.l):=
 ⟨h.ok.asc,h.ok.len,λp hp x hx=>(hD x (h.ok.dom p hp x hx)).2,by have:=h.r;unfold rz at this;simp only;omega,sm_le h.v,h.ok.ndk rcw⟩
theorem zL2(hD:Okv Dm)(f g:Fa Nat)(os:List (Fa Nat))(hf:Gof Dm f)(hg:Gof Dm g)(ho:∀o∈os,Gof Dm o)(hl:os.length<=1000)(hr:rz f*rz g<=900000):
  Pure Al 49 [cntD,faA f,faA g, .row (os.flatMap faAc) os.length] [] (faA (fmul rcmp Sn f g os)):=by
 simp only[rz,Nat.mul_add,Nat.add_mul]at hr;have h:=zXb (f.A,f.l) (g.A,g.l) (os.map λo=>(o.A,o.l)) (hf.fv hD) (hg.fv hD) (λo hm=>by
  obtain⟨o',hm',rfl⟩:=AD.1 hm;exact(ho o' hm').fv hD) (by simpa using hl) (by simp only;omega)
 have e1:(os.map λo=>(o.A,o.l)).flatMap fcC=os.flatMap faAc:=by rw[List.flatMap_map]
 rw[e1,AG]at h;have e2:((zBd (· *·) f.A f.l g.A g.l).filter λp=>(os.map λo=>(o.A,o.l)).all λo=>okO (un f.A g.A) p.1 (faN o))=(zBd Sn.mul f.A f.l g.A g.l).filter λp=>os.all λo=>okO (un f.A g.A) p.1 o:=by
  refine Bv λp _=>?_;rw[B5];rfl
 have hn:=zDk (f:=Sn.mul) hf.ok.asc hg.ok.asc (hf.ok.ndk rcw) (hg.ok.ndk rcw) hf.ok.len hg.ok.len;have e3:fmul rcmp Sn f g os=⟨un f.A g.A,srtL ((zBd Sn.mul f.A f.l g.A g.l).filter λp=>os.all λo=>okO (un f.A g.A) p.1 o)⟩:=by
  unfold fmul;rw[zHm Sn.add (zC6 (λs=>os.all λo=>okO (un f.A g.A) s o) hn)]
 rw[e3,<-e2];exact h
theorem zYc(hD:Okv Dm)(f:Fa Nat)(hf:Gof Dm f)(v:Nat)(hv:v∈f.A):Pure Al 91 [cntD,faA f,iD (v:Nat)] [] (faA (fsum rcmp Sn v f)):=by
 have hr:=hf.r;have hv2:=hf.v;unfold rz at hr;unfold vz at hv2;have h:=sumOut_c f.A f.l v (zBc hf.ok.asc) (by omega) hf.ok.len (λp hp x hx=>(hD x (hf.ok.dom p hp x hx)).2) (Sm.of (by omega));have e1:f.A.filter (λu:Nat=>decide ((u:Int)≠(v:Int)))=less f.A v:=Bv λu _=>by
  rw[BA,decide_eq_true_eq,decide_eq_true_eq];omega
 rw[zK6,e1]at h;have e2:(f.l.map λp=>(zP p.1 (zAu (λu:Nat=>decide ((u:Int)≠(v:Int))) f.A),p.2))=zFz f.A v f.l:=by
  unfold zFz;refine BC λp hp=>?_;rw[zCu hf.ok.asc.nd,e1];congr 1;conv=>rhs;rw[<-zHh hf.ok.asc.nd (hf.ok.len p hp),zH2,zC7 hf.ok.asc.nd]
 rw[e2,zLi]at h;exact h
end
end
section
open Go.RowKit
set_option maxRecDepth 4096
abbrev zAd(f:Fa (Option Nat)):List D:=fcCK (f.A,f.l)
abbrev faAK(f:Fa (Option Nat)):D:=fcDK f.A f.l
theorem zA0(f:Fa (Option Nat)):(zAd f).length=3:=rfl
structure GofK(Dm:List Va)(f:Fa (Option Nat)):Prop where
 ok:FOk rcmp Dm f
 r:rz f<=900000
 v:kz f<=Bz
section
variable {Dm : List Va} (hD : Okv Dm)
theorem GofK.fv{f:Fa (Option Nat)}(h:GofK Dm f)(hD:Okv Dm):FVK (f.A,f.l):=
 ⟨h.ok.asc,h.ok.len,λp hp x hx=>(hD x (h.ok.dom p hp x hx)).2,by have:=h.r;unfold rz at this;simp only;omega,kz_ok h.v,h.ok.ndk rcw⟩
theorem zKh(hD:Okv Dm)(f g:Fa (Option Nat))(os:List (Fa (Option Nat)))(hf:GofK Dm f)(hg:GofK Dm g)(ho:∀o∈os,GofK Dm o)(hl:os.length<=1000)(hr:rz f*rz g<=900000):
  Pure Al 62 [trpD,faAK f,faAK g, .row (os.flatMap zAd) os.length] [] (faAK (fmul rcmp Sk f g os)):=by
 simp only[rz,Nat.mul_add,Nat.add_mul]at hr;have h:=zS0 (f.A,f.l) (g.A,g.l) (os.map λo=>(o.A,o.l)) (hf.fv hD) (hg.fv hD) (λo hm=>by
  obtain⟨o',hm',rfl⟩:=AD.1 hm;exact(ho o' hm').fv hD) (by simpa using hl) (by simp only;omega)
 have e1:(os.map λo=>(o.A,o.l)).flatMap fcCK=os.flatMap zAd:=by rw[List.flatMap_map]
 rw[e1,AG]at h;have e2:((zBd Sk.mul f.A f.l g.A g.l).filter λp=>(os.map λo=>(o.A,o.l)).all λo=>okO (un f.A g.A) p.1 (faNK o))=(zBd Sk.mul f.A f.l g.A g.l).filter λp=>os.all λo=>okO (un f.A g.A) p.1 o:=by
  refine Bv λp _=>?_;rw[B5];rfl
 have hn:=zDk (f:=Sk.mul) hf.ok.asc hg.ok.asc (hf.ok.ndk rcw) (hg.ok.ndk rcw) hf.ok.len hg.ok.len;have e3:fmul rcmp Sk f g os=⟨un f.A g.A,srtL ((zBd Sk.mul f.A f.l g.A g.l).filter λp=>os.all λo=>okO (un f.A g.A) p.1 o)⟩:=by
  unfold fmul;rw[zHm Sk.add (zC6 (λs=>os.all λo=>okO (un f.A g.A) s o) hn)]
 rw[e3,<-e2];exact h
theorem zW4(hD:Okv Dm)(f:Fa (Option Nat))(hf:GofK Dm f)(v:Nat)(hv:v∈f.A):Pure Al 108 [trpD,faAK f,iD (v:Nat)] [] (faAK (fsum rcmp Sk v f)):=by
 have hr:=hf.r;have hv2:=hf.v;unfold rz at hr;have h:=zYb f.A f.l v (zBc hf.ok.asc) (by omega) hf.ok.len (λp hp x hx=>(hD x (hf.ok.dom p hp x hx)).2) (kz_ok hf.v) (λi=>sum_okK hf.v (λr=>zP r (zAu (λu=>decide ((u:Int)≠(v:Int))) f.A)) i);have e1:f.A.filter (λu:Nat=>decide ((u:Int)≠(v:Int)))=less f.A v:=Bv λu _=>by
  rw[BA,decide_eq_true_eq,decide_eq_true_eq];omega
 rw[zK6,e1]at h;have e2:(f.l.map λp=>(zP p.1 (zAu (λu:Nat=>decide ((u:Int)≠(v:Int))) f.A),p.2))=zFz f.A v f.l:=by
  unfold zFz;refine BC λp hp=>?_;rw[zCu hf.ok.asc.nd,e1];congr 1;conv=>rhs;rw[<-zHh hf.ok.asc.nd (hf.ok.len p hp),zH2,zC7 hf.ok.asc.nd]
 rw[e2,zLi]at h;exact h
end
end
section
open Go.RowKit
attribute [local irreducible] seqW awp zAe zAh zAb Weak updS zAs retL Pure Acts rP setP setQ cP nP fr
set_option maxRecDepth 4096
theorem bl_iff:∀a b:List UInt8,Op.bytesLess a b=decide (BL a b=-1)
  |[],[]=>rfl
  |[],_::_=>by simp[Op.bytesLess,BL]
  |_::_,[]=>by simp[Op.bytesLess,BL]
  | x ::a,y::b=>by
    have ih:=bl_iff a b;unfold Op.bytesLess BL;by_cases h1:x<y
    ·simp[h1]
    · by_cases h2:y<x
      · have:¬x=y:=λe=>h1 (e▸h2)
        simp[h1,h2,this]
      · have e:x=y:=UInt8.le_antisymm (UInt8.not_lt.1 h2) (UInt8.not_lt.1 h1)
        simp[h1,h2,e,ih]
def Tl:Par:=⟨λ_=>Ac,λ_ _=>Aq,λ_=>Ac,λ_=>Ac,λ_=>Ac⟩
theorem zCf:zCe Al Tl:=by intro t n f h;cases h
theorem rcv_c (a b:Va):Pure Al 98 [vaD a,vaD b] [] (iD (vcmp a b)):=by
  refine zH zCf mixed Tryz.func98 rfl ?_;focus
    refine vAu<|zB<|vA<|vr 3 (3<=3/\3<=3/\True)<|vs 7 (bD (Bo a==Bo b&&(Bp a==Bp b&&(Co (bs<|Bd a)==Co (bs<|Bd b)&&Ab)))) (bD (Bo a==Bo b&&(Bp a==Bp b&&Bd a==Bd b))) (hd:=by simp(disch:=omega) only[zJc,Bool.and_true])<|veT<|zAa (t:=Bo a==Bo b&&(Bp a==Bp b&&Bd a==Bd b)) (by kernel_rfl) (λhc=>?_)<|λhc=>?_;simp only[decide_eq_true_eq,decide_eq_false_iff_not,beq_iff_eq,bne_iff_ne,beq_eq_false_iff_ne,A6,BK,Ci,Cs,ne_eq,Decidable.not_not,Int.not_lt,Int.not_le,ge_iff_le,gt_iff_lt,bne_eq_false_iff_eq]at hc;refine vAe<|zK<|zG<|vre (True) (q2_) (.inr rfl) ?_;rotate_left;refine vK<|zB<|vA<|vr 6 (True/\0<3/\True/\0<3)<|vspD 13 (Bo a<Bo b) (λhc=>?_)<|λhc=>?_;refine veT<|vt<|vAe<|zK<|zG<|vre (True) (q0_) (.inr rfl) ?_;rotate_left;refine vr 6 (True/\0<3/\True/\0<3/\True)<|vsp 19 (Bo a==Bo b) (λhc=>?_)<|λhc=>?_;simp only[beq_iff_eq]at hc;refine vr 6 (True/\0<2/\True/\0<2)<|vspD 25 (Bp a<Bp b) (λhc=>?_)<|λhc=>?_;refine veT<|vt<|vAe<|zK<|zG<|vre (True) (q0_) (.inr rfl) ?_;rotate_left;refine vr 6 (True/\0<2/\True/\0<2/\True)<|vsp 31 (Bp a==Bp b) (λhc=>?_)<|λhc=>?_;simp only[beq_iff_eq]at hc;refine vr 5 (True/\0<1/\True/\0<1)<|vs 36 (bD<|Op.bytesLess (Co<|bs<|Bd a)<|Co<|bs<|Bd b) (bD<|decide (BL (Bd a) (Bd b)=(-1:Int))) (hd:=by simp(disch:=omega) only[zJc,bl_iff,Int.reduceNeg])<|veT<|vcD (BL (Bd a) (Bd b)=(-1:Int)) (λhc=>?_)<|λhc=>?_;refine vAe<|zK<|zG<|vre (True) (q0_) (.inr rfl) ?_;rotate_left;refine vK<|vAe<|zK<|vre (True) (q1_) (.inr rfl) ?_;rotate_left;simp only[beq_eq_false_iff_ne]at hc;refine veT<|vf<|vK<|vAe<|zK<|vre (True) (q1_) (.inr rfl) ?_;rotate_left;simp only[beq_eq_false_iff_ne]at hc;refine veT<|vf<|vK<|vAe<|zK<|vre (True) (q1_) (.inr rfl) ?_;rotate_left
  all_goals
    have e1:=(zHj a.str b.str).1;have e2:=(zHj a.str b.str).2.1;have e3:=zCj a.kind b.kind;have e4:=zCj a.int b.int;refine congrArg (λz=>iD z) ?_;unfold vcmp;split
    ·omega
    · first
      |omega
      | (split
         ·omega
         · by_cases hs:a.str=b.str
           · have:=e2.2 hs
             first
               |omega
               |(exfalso;simp_all)
           · have:BL a.str b.str≠0:=λh=>hs (e2.1 h)
             first
               |omega
               |(exfalso;simp_all))
set_option maxHeartbeats 2000000 in
theorem zYk(a b:Rw)(n m:Nat)(hn:a.length=n)(hm:b.length=m)(ln:n<=1000000000)(lm:m<=1000000000):Pure Al 51 [.row (zN a) n, .row (zN b) m] [] (bD (decide (rcmp a b<0))):=by
  subst hn hm;refine zH zCf mixed Tryz.func51 rfl<|vAu<|zB<|vAe<|zF<|zQ (λ(i:Nat)=>fr 37 [(0,Ae (zN a)<|Aa a),(1,Ae (zN b)<|Aa b),(5,iD (i:Int))]) (λ_=>[]) (λi=>a.length-i) (λi=>i<=a.length/\i<=b.length/\a.take i=b.take i) 0 ?_ ?_ ?_
  ·exact⟨by omega,by omega,by simp⟩
  ·refine vk 0
  rintro i ⟨h1,h2,h3⟩;have hv:=(zEc (a.getD i Ak) (b.getD i Ak)).1;focus
    refine zB<|vAs<|vrT 5<|vspD 11 ((i:Int)<↑(Aa a)) (λhc=>?_)<|λhc=>?_;refine veT<|vcD ((i:Int)<↑(Aa b)) (λhc=>?_)<|λhc=>?_;refine vKB<|zB<|vd [0,1,2,4,5,6,3,7,8,9]<|vr 7 (ix ↑i ↑(Aa a) (zN a≠[])/\ix ↑i ↑(Aa b) (zN b≠[])/\3<=Aa (Ag (i*3)<|zN a)) (vs 22 (Ar<|Am 3<|Ag (i*3)<|zN a) (Ar<|vaC<|Af a i Ak) (hd:=by simp(disch:=omega) only[zDs])<|vr 1 (3<=Aa (Ag (i*3)<|zN b)) (vs 26 (Ar<|Am 3<|Ag (i*3)<|zN b) (Ar<|vaC<|Af b i Ak) (hd:=by simp(disch:=omega) only[zDs])<|vca [Ar [iD<|Bo<|Af a i Ak,iD<|Bp<|Af a i Ak,Ay<|Aw<|bs<|Bd<|Af a i Ak],Ar [iD<|Bo<|Af b i Ak,iD<|Bp<|Af b i Ak,Ay<|Aw<|bs<|Bd<|Af b i Ak]] (by exact rcv_c _ _)<|veT<|zB ?_) (by exact zFw _ _)) ⟨⟨(by omega),⟨(by omega),(by exact zGz _)⟩⟩,⟨(by omega),⟨(by omega),(by exact zGz _)⟩⟩,(by exact zFw _ _)⟩;refine zA rfl<|veT<|zAa (t:=vcmp (Af a i Ak) (Af b i Ak)!=(0:Int)) (by kernel_rfl) (λhc=>?_)<|λhc=>?_;simp only[bne_iff_ne]at hc;refine vAe<|zK<|zL<|zG<|zG<|zL<|zG<|vre (True) (Ay<|B9<|decide (vcmp (Af a i Ak) (Af b i Ak)<0)) (.inr rfl) ?_;rotate_left;simp only[bne_eq_false_iff_eq]at hc;refine zJ<|zD<|vN<|zA rfl<|vr 3 (i6 (↑i+1))<|vnil<|zC ?_;rotate_left;refine vZ2<|vAe<|zK<|vre (True) (Ay<|B9<|decide ((Aa a:Int)<(Aa b:Int))) (.inr rfl) ?_;rotate_left;refine veT<|vf<|vZ2<|vAe<|zK<|vre (True) (Ay<|B9<|decide ((Aa a:Int)<(Aa b:Int))) (.inr rfl) ?_;rotate_left
  ·rw[rcmp_at i a b (by omega) (by omega) h3 hc]
  · refine⟨i+1,⟨by omega,by omega,zKb i a b (by omega) (by omega) h3 hc⟩,by omega,?_⟩
    refine vk 0
  all_goals
    rw[<-zLo a b,zVq a b i [] (by omega) (by omega) h3 (by omega)];refine congrArg bD ?_;rw[BA,decide_eq_true_eq,decide_eq_true_eq];split
    ·omega
    split<;>omega
theorem rsame_c(a:Rw)(n:Nat)(hn:a.length=n)(ln:n<=1000000000):Pure Al 50 [.row (zN a) n, .row (zN a) n] [] (bD Ab):=by
  have h:=zYk a a n n hn hn ln ln;have e:decide (rcmp a a<0)=false:=by simp[(zHw a a).2.1.2 rfl]
  rw[e]at h;refine zH zCf mixed Tryz.func50 rfl<|vAu<|vA<|vrT 2<|vc (h)<|vrT 4<|vc (h)<|veT<|zK<|vret (True)<|.inr rfl
theorem rindex_c(V:List Int)(n:Nat)(v:Int)(hn:V.length=n)(ln:n<=1000000000):Pure Al 52 [.row (V.map iD) n,iD v] [] (iD (ixI V v)):=by
  subst hn;refine zH zCf mixed Tryz.func52 rfl<|vAu<|zB<|vAe<|zF<|zQ (λ(i:Nat)=>fr 19 [(0,Ae (Ad iD V)<|Aa V),(1,iD v),(5,iD (i:Int))]) (λ_=>[]) (λi=>V.length-i) (λi=>i<=V.length/\∀j,j<i->V.getD j 0≠v) 0 ?_ ?_ ?_
  ·exact⟨by omega,λj h=>by omega⟩
  ·refine vk 0
  rintro i ⟨h1,h2⟩;rcases AF i V.length with h3|h3
  · have hne:V.map iD≠[]:=zX
    have hx:=zBn V i (h:=h3);focus
      refine zB<|vAu<|vT ((i:Int)<↑(Aa V))<|vKB<|vA<|vr 3 (ix ↑i ↑(Aa V) (Ad iD V≠[]))<|vp 14 i (Ad iD V)<|vr 1 (0<Aa (Ag i<|Ad iD V))<|vsh 15 hx<|veT<|zAa (t:=Af V i (0:Int)==v) (by kernel_rfl) (λhc=>?_)<|λhc=>?_;simp only[beq_iff_eq]at hc;refine vAe<|zK<|zL<|zG<|zG<|zL<|zG<|vre (True) (Ay<|AI BE (i:Int)) (.inr rfl) ?_;rotate_left;simp only[beq_eq_false_iff_ne]at hc;refine zJ<|zD<|vN<|zA rfl<|vr 3 (i6 (↑i+1))<|vnil<|zC ?_;rotate_left
    ·rw[ixI_yes h3 hc h2]
    · refine⟨i+1,⟨by omega,λj hj=>?_⟩,by omega,?_⟩
      · rcases AF j i with h|h
        ·exact h2 j h
        · obtain rfl:j=i:=by omega
          exact hc
      refine vk 0
  · refine zB<|vAu<|vF ((↑i:Int)<(↑(Aa V):Int))<|vZ2<|vAe<|zK<|vre (True) (Ay<|AI BE (-1:Int)) (.inr rfl) ?_
    rw[ixI_no λj hj=>h2 j (by omega)]
end
section
open Go.RowKit
attribute [local irreducible] seqW awp zAe zAh zAb Weak updS zAs retL Pure Acts rP setP setQ cP nP fr
set_option maxRecDepth 100000
theorem u8_rng(x:Int):0<=Bu.wrap x/\Bu.wrap x<256:=by
 unfold A1;have h:(2:Int)^Bu.bits=256:=by decide
 rw[h];simp only[IntKind.signed];have h1:=Int.emod_nonneg x (b:=256) (by decide);have h2:=Int.emod_lt_of_pos x (b:=256) (by decide);simp;omega
theorem and255(b:BitVec 32):(0:Int)<=((b&&&Ap 32 255).toNat:Nat)/\(((b&&&Ap 32 255).toNat:Nat):Int)<((256:Nat):Int):=by
 have h:(b&&&Ap 32 255).toNat<=255:=by
  rw[BitVec.toNat_and];exact AX Nat.and_le_right (by decide)
 omega
theorem shr24(m:Nat)(hm:m<4294967296):0<=AT (m:Int) (2^24)/\AT (m:Int) (2^24)<((256:Nat):Int):=by
 have h:=zX3 m (v:=24) (by omega);rw[show(min ((24:Nat):Int).toNat 32)=24 by decide]at h;rw[h,Nat.shiftRight_eq_div_pow];have:m/2^24<256:=Nat.div_lt_of_lt_mul (by omega);omega
def popT:List UInt8:=[0,1,1,2,1,2,2,3,1,2,2,3,2,3,3,4,1,2,2,3,2,3,3,4,2,3,3,4,3,4,4,5,1,2,2,3,2,3,3,4,2,3,3,4,3,4,4,5,2,3,3,4,3,4,4,5,3,4,4,5,4,5,5,6,1,2,2,3,2,3,3,4,2,3,3,4,3,4,4,5,2,3,3,4,3,4,4,5,3,4,4,5,4,5,5,6,2,3,3,4,3,4,4,5,3,4,4,5,4,5,5,6,3,4,4,5,4,5,5,6,4,5,5,6,5,6,6,7,1,2,2,3,2,3,3,4,2,3,3,4,3,4,4,5,2,3,3,4,3,4,4,5,3,4,4,5,4,5,5,6,2,3,3,4,3,4,4,5,3,4,4,5,4,5,5,6,3,4,4,5,4,5,5,6,4,5,5,6,5,6,6,7,2,3,3,4,3,4,4,5,3,4,4,5,4,5,5,6,3,4,4,5,4,5,5,6,4,5,5,6,5,6,6,7,3,4,4,5,4,5,5,6,4,5,5,6,5,6,6,7,4,5,5,6,5,6,6,7,5,6,6,7,6,7,7,8]
def popB(i:Nat):Int:=((popT.toArray.getD i 0).toNat:Int)
theorem popW_c(m:Nat)(hm:m<4294967296):Pure Al 89 [u32D m] [] (iD (BE.wrap (Bu.wrap (Bu.wrap (Bu.wrap (popB (AT (m:Int) (2^24)).toNat+popB (Ap 32 (AT (m:Int) (2^16))&&&Ap 32 255).toNat)+popB (Ap 32 (AT (m:Int) (2^8))&&&Ap 32 255).toNat)+popB (Ap 32 (m:Int)&&&Ap 32 255).toNat)))):=by
 have h1:=shr24 m hm;have h2:=and255 (Ap 32 (AT (m:Int) (2^16)));have h3:=and255 (Ap 32 (AT (m:Int) (2^8)));have h4:=and255 (Ap 32 (m:Int));refine zH zCf mixed Tryz.func89 rfl<|vAu<|zB<|vd [0,1,2,3,4,5,6,7,8,9,10,11,12,13,14,15,16,17,18]<|vr 6 ((0:Int)<=(24:Int)/\((0:Int)<=AT (m:Int) ((2:Int)^24)/\AT (m:Int) ((2:Int)^24)<(↑(256:Nat):Int))/\(0:Int)<=(16:Int)/\True)<|vs 8 (Ay<|AI AB<|A1 AB (↑(AH (Ap 32 (AT (m:Int) ((2:Int)^16))&&&Ap 32 (255:Int))):Int)) (dig<|AH (Ap 32 (AT (m:Int) ((2:Int)^16))&&&Ap 32 (255:Int))) (hd:=by simp(disch:=omega) only[zA1])<|vw 5 [10] [] (((0:Int)<=(↑(AH (Ap 32 (AT (m:Int) ((2:Int)^16))&&&Ap 32 (255:Int))):Int)/\(↑(AH (Ap 32 (AT (m:Int) ((2:Int)^16))&&&Ap 32 (255:Int))):Int)<(↑(256:Nat):Int))/\True/\(0:Int)<=(8:Int)/\True)<|vs 13 (Ay<|AI AB<|A1 AB (↑(AH (Ap 32 (AT (m:Int) ((2:Int)^8))&&&Ap 32 (255:Int))):Int)) (dig<|AH (Ap 32 (AT (m:Int) ((2:Int)^8))&&&Ap 32 (255:Int))) (hd:=by simp(disch:=omega) only[zA1])<|vw 4 [15] [] (((0:Int)<=(↑(AH (Ap 32 (AT (m:Int) ((2:Int)^8))&&&Ap 32 (255:Int))):Int)/\(↑(AH (Ap 32 (AT (m:Int) ((2:Int)^8))&&&Ap 32 (255:Int))):Int)<(↑(256:Nat):Int))/\True/\True)<|vs 17 (Ay<|AI AB<|A1 AB (↑(AH (Ap 32 (m:Int)&&&Ap 32 (255:Int))):Int)) (dig<|AH (Ap 32 (m:Int)&&&Ap 32 (255:Int))) (hd:=by simp(disch:=omega) only[zA1])<|vew [19,20] [] (((0:Int)<=(↑(AH (Ap 32 (m:Int)&&&Ap 32 (255:Int))):Int)/\(↑(AH (Ap 32 (m:Int)&&&Ap 32 (255:Int))):Int)<(↑(256:Nat):Int))/\True/\True)<|zK<|vret (True)<|.inr rfl
theorem popc_c(m:Nat)(hm:m<4294967296):∃k:Nat,Pure Al 89 [u32D m] [] (iD (k:Nat)):=by
 have h:=popW_c m hm;generalize Bu.wrap (popB (AT (m:Int) (2^24)).toNat+popB (Ap 32 (AT (m:Int) (2^16))&&&Ap 32 255).toNat)+popB (Ap 32 (AT (m:Int) (2^8))&&&Ap 32 255).toNat=a at h;have r:=u8_rng (Bu.wrap a+popB (Ap 32 (m:Int)&&&Ap 32 255).toNat);generalize Bu.wrap (Bu.wrap a+popB (Ap 32 (m:Int)&&&Ap 32 255).toNat)=b at h r;rw[zD4 (k:= .i64) (by simp only[inK];omega)]at h;refine⟨b.toNat,?_⟩;rw[Int.toNat_of_nonneg r.1];exact h
noncomputable def popN (m:Nat):Nat:=if hm:m<4294967296 then Classical.choose (popc_c m hm)else 0
theorem zYu(m:Nat)(hm:m<4294967296):Pure Al 89 [u32D m] [] (iD (popN m:Nat)):=by
 unfold popN;rw[dif_pos hm];exact Classical.choose_spec (popc_c m hm)
end
section
open Go.RowKit
attribute [local irreducible] seqW awp zAe zAh zAb Weak updS zAs retL Pure Acts rP setP setQ cP nP fr
set_option maxRecDepth 4096
theorem zS2(a b:Nat):(if((b:Nat):Int)>(a:Nat)then((b:Nat):Int)else((a:Nat):Int))=((max a b:Nat):Int):=by split<;>omega
theorem zLb{α:Type}(v:Nat)(fs:List (Fa α))(k:Nat)(h:k<fs.length):uniM v (fs.take (k+1))=if v∈(fs.getD k Ak).A then uniM v (fs.take k)|||msk (fs.getD k Ak).A else uniM v (fs.take k):=by
 rw[zBl fs k h];unfold uniM;rw[B0];rfl
theorem zMp{α:Type}(v:Nat)(fs:List (Fa α))(k:Nat)(h:k<fs.length):bigL v (fs.take (k+1))=if v∈(fs.getD k Ak).A then max (bigL v (fs.take k)) (fs.getD k Ak).A.length else bigL v (fs.take k):=by
 rw[zBl fs k h];unfold bigL;rw[B0];rfl
theorem zHa{α:Type}(v:Nat):∀(fs:List (Fa α))(m:Nat),m<4294967296->(∀f∈fs,∀w∈f.A,w<32)->fs.foldl (λm f=>if v∈f.A then m|||msk f.A else m) m<4294967296
 |[],m,h,_=>h
 |f::fs,m,h,hf=>by
  rw[Ce];refine zHa v fs _ ?_ λg hg=>hf g (BB _ hg);split
  ·exact zH1 h (zA3 (hf f (B6 ..)))
  exact h
theorem zT2{α:Type}(fs:List (Fa α))(E:List Nat)(i:Nat)(h:i<E.length)(s0:Int×Nat):(E.take (i+1)).foldl (zC0 popN fs) s0=zC0 popN fs ((E.take i).foldl (zC0 popN fs) s0) (E.getD i 0):=by
 rw[Bh h,B0,Au,AC h];rfl
set_option maxHeartbeats 8000000 in
theorem zXp(fs:List (Fa Nat))(E:List Nat)(hE:Asc E)(hne:E≠[])(hA:∀f∈fs,Asc f.A)(hl:fs.length<=1000):
  Pure Al 47 [.row (fs.flatMap faAc) fs.length,u32D (msk E)] [] (iD (zAj popN fs E:Nat)):=by
 have hm:=zE0 (msk E) (zA3 hE.2);rw[zEf hE]at hm;have nE:=zBc hE;refine zH zCf mixed Tryz.func47 rfl<|vAu<|vAe<|zB<|vA<|vrT 1<|vc (hm)<|veT<|zF<|zAo (λ(i:Nat)(b:Int)(l:Nat)=>fr 59 [(0,Ae (As faAc fs)<|Aa fs),(4,iD 0),(5,iD b),(6,iD (l:Int)),(15,Ae (nsD E)<|Aa E),(16,iD (Aa E:Int)),(17,iD (i:Int))]) (λ(i:Nat)(b:Int)(l:Nat)=>[]) (λi b l=>E.length-i) (λ(i:Nat)(b:Int)(l:Nat)=>i<=E.length/\(b,l)=(E.take i).foldl (zC0 popN fs) (-1,0)) 0 (-1) 0 ?_ ?_ ?_
 ·exact⟨by omega,rfl⟩
 ·refine vk 0
 rintro i b l ⟨h1,h2⟩;rcases AF i E.length with h3|h3
 ·have hz:=zAi E i h3;have hneE:nsD E≠[]:=zX;have hst:=zT2 fs E i h3 (-1,0);rw[<-h2]at hst;have hv32:=hE.2 _ (zBv E i h3);generalize E.getD i 0=v at*;refine vAu<|zB<|vT ((i:Int)<↑(Aa E))<|vKB<|vA<|vr 1 (ix ↑i ↑(Aa E) (nsD E≠[]))<|vp 19 i (nsD E)<|vr 1 (0<Aa (Ag i<|nsD E))<|vsh 20 hz<|veT<|vAe<|vAe<|zB<|vAe<|zF<|zQ (λ(k:Nat)=>fr 59 [(0,Ae (As faAc fs)<|Aa fs),(4,iD 0),(5,iD b),(6,iD l),(8,iD v),(9,u32D<|uniM v<|Am k fs),(10,iD (↑(bigL v<|Am k fs):Int)),(15,(q4_ E)),(16,iD<|Aa E),(17,iD i),(21,Ae (As faAc fs)<|Aa fs),(22,iD<|Aa fs),(23,iD k)]) (λ(k:Nat)=>[]) (λk=>fs.length-k) (λ(k:Nat)=>k<=fs.length) 0 ?_ ?_ ?_
  ·omega
  ·refine vk 0
  rintro k k1;rcases AF k fs.length with k2|k2
  ·have hmf:=zAx fs Ak k k2;have hg2:=zA9 zA7 fs k k2;have hle:=zB5 zA7 fs k k2;have hne2:=zCb zA7 (by decide) fs;have hAf:=hA _ hmf;have nAf:=zBc hAf;have u1:=zLb v fs k k2;have u2:=zMp v fs k k2;have u3:uniM v (fs.take k)<4294967296:=zHa v (fs.take k) 0 (by omega) λf hf=>(hA f (BR hf)).2;have sA:=zNm (fs.getD k Ak).A _ rfl (by omega) hAf.2 (rwsD (fs.getD k Ak).l) (vlsD (fs.getD k Ak).l) (fs.getD k Ak).l.length (fs.getD k Ak).l.length;have hma:=zA3 hAf.2;have w1:=zR4 hma v;have w2:=zXs hma v;rw[zB2]at w1 w2;have w3:=zDt (msk (fs.getD k Ak).A) hv32;have w4:=zKu u3 hma;have w5:=zA4 (zH1 u3 hma);have w6:=zS2 (bigL v (fs.take k)) (fs.getD k Ak).A.length;generalize fs.getD k Ak=f at*;focus
    refine vAu<|zB<|vT ((k:Int)<↑(Aa fs))<|vKB<|vA<|vr 2 (ix ↑k ↑(Aa fs) (As faAc fs≠[])/\3<=Aa (Ag (k*3)<|As faAc fs))<|vs 26 (Ar<|Am 3<|Ag (k*3)<|As faAc fs) (Ar<|faAc f) (hd:=by simp(disch:=omega) only[hg2])<|ve (Ac=Ac/\Ab=Ab/\3=3/\3<=3)<|vA<|vr 1 (3<=3)<|vc sA<|vr 2 ((0:Int)<=(v:Int))<|vs 30 (Ay<|AI AB<|AT (↑(msk<|AU f):Int) ((2:Int)^min (A5 (v:Int)) 32)) (dig (msk (AU f)>>>v)) (hd:=by simp(disch:=omega) only[Br,w3])<|vrT 1<|vs 31 (Ay<|AI AB<|A1 AB (↑(AH (Ap 32 (↑(msk (AU f)>>>v):Int)&&&Ap 32 (1:Int))):Int)) (dig<|AH (Ap 32 (↑(msk (AU f)>>>v):Int)&&&Ap 32 (1:Int))) (hd:=by simp(disch:=omega) only[zA1])<|vrT 1<|vs 32 (bD ((↑(AH (Ap 32 (↑(msk (AU f)>>>v):Int)&&&Ap 32 (1:Int))):Int)==(1:Int))) (bD<|decide (v∈AU f)) (hd:=by simp(disch:=omega) only[w1])<|veT<|vcD (v∈AU f) (λhc=>?_)<|λhc=>?_;refine vA<|vr 2 (3<=3)<|vc sA<|vrT 1<|vs 36 (Ay<|AI AB<|A1 AB (↑(AH (Ap 32 (↑(uniM v<|Am k fs):Int)|||Ap 32 (↑(msk<|AU f):Int))):Int)) (dig (uniM v (Am k fs)|||msk (AU f))) (hd:=by simp(disch:=omega) only[w5,w4])<|veT<|zA rfl<|vr 5 (True/\0<3)<|vs 41 (iD (if(Aa (AU f):Int)>(↑(bigL v<|Am k fs):Int)then(Aa (AU f):Int)else(↑(bigL v<|Am k fs):Int))) (iD (↑(max (bigL v<|Am k fs)<|Aa<|AU f):Int)) (hd:=by simp(disch:=omega) only[w6])<|vrT 1<|vnil<|zD<|vN<|zA rfl<|vr 2 (i6 (↑k+1))<|vnil<|zC ?_;rotate_left;refine zJ<|zD<|vN<|zA rfl<|vr 2 (i6 (↑k+1))<|vnil<|zC ?_;rotate_left
   ·rw[if_pos hc]at u1 u2;refine⟨k+1,by omega,by omega,?_⟩;rw[u1,u2];refine vk 0
   rw[if_neg hc]at u1 u2;refine⟨k+1,by omega,by omega,?_⟩;rw[u1,u2];refine vk 0
  obtain rfl:k=fs.length:=by omega
  have u3:uniM v fs<4294967296:=zHa v fs 0 (by omega) λf hf=>(hA f hf).2;have hp:=zYu (uniM v fs) u3;rw[BF];have hco:zDp popN fs v=if popN (uniM v fs)=bigL v fs then 0 else popN (uniM v fs):=rfl
  unfold zC0 at hst;generalize popN (uniM v fs)=q at*;focus
   refine vAu<|zB<|vF ((Aa fs:Int)<↑(Aa fs))<|vZ2<|vA<|vrT 1<|vc hp<|veT<|zB<|vAe<|zAa (t:=(q:Int)==↑(bigL v fs)) (by kernel_rfl) (λhc=>?_)<|λhc=>?_;simp only[beq_iff_eq]at hc;refine zA rfl<|veT<|vA<|vrT 3<|vspD 50 (b<0) (λhc=>?_)<|λhc=>?_;refine veT<|vt<|zA rfl<|vrT 4<|vnil<|zD<|vN<|zA rfl<|vr 2 (i6 (↑i+1))<|vnil<|zC ?_;rotate_left;refine veT<|vcD ((0:Int)<(l:Int)) (λhc=>?_)<|λhc=>?_;refine zA rfl<|vrT 4<|vnil<|zD<|vN<|zA rfl<|vr 2 (i6 (↑i+1))<|vnil<|zC ?_;rotate_left;refine zJ<|zD<|vN<|zA rfl<|vr 2 (i6 (↑i+1))<|vnil<|zC ?_;rotate_left;simp only[beq_eq_false_iff_ne]at hc;refine vK<|vA<|vrT 3<|vspD 50 (b<0) (λhc=>?_)<|λhc=>?_;refine veT<|vt<|zA rfl<|vrT 4<|vnil<|zD<|vN<|zA rfl<|vr 2 (i6 (↑i+1))<|vnil<|zC ?_;rotate_left;refine veT<|vcD ((q:Int)<↑l) (λhc=>?_)<|λhc=>?_;refine zA rfl<|vrT 4<|vnil<|zD<|vN<|zA rfl<|vr 2 (i6 (↑i+1))<|vnil<|zC ?_;rotate_left;refine zJ<|zD<|vN<|zA rfl<|vr 2 (i6 (↑i+1))<|vnil<|zC ?_;rotate_left
  ·have e:zDp popN fs v=0:=by rw[hco,if_pos (by omega)]
   rw[e,if_pos (by simp only;omega)]at hst;refine⟨i+1,(v:Int),0,⟨by omega,hst.symm⟩,by omega,?_⟩;refine vk 0
  ·have e:zDp popN fs v=0:=by rw[hco,if_pos (by omega)]
   rw[e,if_pos (by simp only;omega)]at hst;refine⟨i+1,(v:Int),0,⟨by omega,hst.symm⟩,by omega,?_⟩;refine vk 0
  ·have e:zDp popN fs v=0:=by rw[hco,if_pos (by omega)]
   rw[e,if_neg (by simp only;omega)]at hst;refine⟨i+1,b,l,⟨by omega,hst.symm⟩,by omega,?_⟩;refine vk 0
  ·have e:zDp popN fs v=q:=by rw[hco,if_neg (by omega)]
   rw[e,if_pos (by simp only;omega)]at hst;refine⟨i+1,(v:Int),q,⟨by omega,hst.symm⟩,by omega,?_⟩;refine vk 0
  ·have e:zDp popN fs v=q:=by rw[hco,if_neg (by omega)]
   rw[e,if_pos (by simp only;omega)]at hst;refine⟨i+1,(v:Int),q,⟨by omega,hst.symm⟩,by omega,?_⟩;refine vk 0
  have e:zDp popN fs v=q:=by rw[hco,if_neg (by omega)]
  rw[e,if_neg (by simp only;omega)]at hst;refine⟨i+1,b,l,⟨by omega,hst.symm⟩,by omega,?_⟩;refine vk 0
 rw[AA (by omega)]at h2;have hcm:=(zEk popN fs hne).2;rw[<-h2]at hcm;refine vAu<|zB<|vF ((i:Int)<↑(Aa E))<|vZ2<|vAe<|zK<|vre (True) (Ay<|AI BE b) (.inr rfl) ?_;rw[<-hcm]
set_option maxHeartbeats 8000000 in
theorem zT1(fs:List (Fa (Option Nat)))(E:List Nat)(hE:Asc E)(hne:E≠[])(hA:∀f∈fs,Asc f.A)(hl:fs.length<=1000):
  Pure Al 60 [.row (fs.flatMap zAd) fs.length,u32D (msk E)] [] (iD (zAj popN fs E:Nat)):=by
 have hm:=zE0 (msk E) (zA3 hE.2);rw[zEf hE]at hm;have nE:=zBc hE;refine zH zCf mixed Tryz.func60 rfl<|zB<|zA rfl<|v0s<|veT<|zB<|zA rfl<|veT<|zB<|zB<|zA rfl<|vrT 1<|vc (hm)<|veT<|zF<|zAo (λ(i:Nat)(b:Int)(l:Nat)=>fr 59 [(0,Ae (As zAd fs)<|Aa fs),(4,iD 0),(5,iD b),(6,iD (l:Int)),(15,Ae (nsD E)<|Aa E),(16,iD (Aa E:Int)),(17,iD (i:Int))]) (λ(i:Nat)(b:Int)(l:Nat)=>[]) (λi b l=>E.length-i) (λ(i:Nat)(b:Int)(l:Nat)=>i<=E.length/\(b,l)=(E.take i).foldl (zC0 popN fs) (-1,0)) 0 (-1) 0 ?_ ?_ ?_
 ·exact⟨by omega,rfl⟩
 ·refine vk 0
 rintro i b l ⟨h1,h2⟩;rcases AF i E.length with h3|h3
 ·have hz:=zAi E i h3;have hneE:nsD E≠[]:=zX;have hst:=zT2 fs E i h3 (-1,0);rw[<-h2]at hst;have hv32:=hE.2 _ (zBv E i h3);generalize E.getD i 0=v at*;refine zB<|zA rfl<|v0s<|veT<|zB<|vT ((i:Int)<(Aa E:Int))<|zJ<|zC<|zE<|zB<|zF<|zB<|zA rfl<|vr 1 (ix (i:Int) (Aa E:Int) (nsD E≠[]))<|vp 19 (i) (nsD E)<|vr 1 (0<Aa (Ag i<|nsD E))<|vsh 20 hz<|veT<|zB<|zA rfl<|veT<|zB<|zA rfl<|veT<|zB<|zB<|zA rfl<|veT<|zF<|zQ (λ(k:Nat)=>fr 59 [(0,Ae (As zAd fs)<|Aa fs),(4,iD 0),(5,iD b),(6,iD (l:Int)),(8,iD (v:Int)),(9,u32D<|uniM v<|Am k fs),(10,iD (↑(bigL v<|Am k fs):Int)),(15,Ae (nsD E)<|Aa E),(16,iD (Aa E:Int)),(17,iD (i:Int)),(21,Ae (As zAd fs)<|Aa fs),(22,iD (Aa fs:Int)),(23,iD (k:Int))]) (λ(k:Nat)=>[]) (λk=>fs.length-k) (λ(k:Nat)=>k<=fs.length) 0 ?_ ?_ ?_
  ·omega
  ·refine vk 0
  rintro k k1;rcases AF k fs.length with k2|k2
  ·have hmf:=zAx fs Ak k k2;have hg2:=zA9 zA0 fs k k2;have hle:=zB5 zA0 fs k k2;have hne2:=zCb zA0 (by decide) fs;have hAf:=hA _ hmf;have nAf:=zBc hAf;have u1:=zLb v fs k k2;have u2:=zMp v fs k k2;have u3:uniM v (fs.take k)<4294967296:=zHa v (fs.take k) 0 (by omega) λf hf=>(hA f (BR hf)).2;have sA:=zJz (fs.getD k Ak).A _ rfl (by omega) hAf.2 (zAl (fs.getD k Ak).l) (zAq (fs.getD k Ak).l) (fs.getD k Ak).l.length (fs.getD k Ak).l.length;have hma:=zA3 hAf.2;have w1:=zR4 hma v;have w2:=zXs hma v;rw[zB2]at w1 w2;have w3:=zDt (msk (fs.getD k Ak).A) hv32;have w4:=zKu u3 hma;have w5:=zA4 (zH1 u3 hma);have w6:=zS2 (bigL v (fs.take k)) (fs.getD k Ak).A.length;generalize fs.getD k Ak=f at*;focus
    refine zB<|zA rfl<|v0s<|veT<|zB<|vT ((k:Int)<(Aa fs:Int))<|zJ<|zC<|zE<|zB<|zF<|zB<|zA rfl<|vr 2 (ix (k:Int) (Aa fs:Int) (As zAd fs≠[])/\3<=Aa (Ag (k*3)<|As zAd fs))<|vs 26 (Ar<|Am 3<|Ag (k*3)<|As zAd fs) (Ar<|zAd f) (hd:=by simp(disch:=omega) only[hg2])<|ve (Ac=Ac/\Ab=Ab/\3=3/\3<=3)<|zB<|zA rfl<|vr 1 (3<=3)<|vc (sA)<|vr 2 ((0:Int)<=(v:Int))<|vs 30 (Ay<|AI AB<|AT (↑(msk<|AU f):Int) ((2:Int)^min (A5 (v:Int)) 32)) (dig (msk (AU f)>>>v)) (hd:=by simp(disch:=omega) only[Br,w3])<|vrT 1<|vs 31 (Ay<|AI AB<|A1 AB (↑(AH (Ap 32 (↑(msk (AU f)>>>v):Int)&&&Ap 32 (1:Int))):Int)) (dig<|AH (Ap 32 (↑(msk (AU f)>>>v):Int)&&&Ap 32 (1:Int))) (hd:=by simp(disch:=omega) only[zA1])<|vrT 1<|vs 32 (bD ((↑(AH (Ap 32 (↑(msk (AU f)>>>v):Int)&&&Ap 32 (1:Int))):Int)==(1:Int))) (bD<|decide (v∈AU f)) (hd:=by simp(disch:=omega) only[w1])<|veT<|vcD (v∈AU f) (λhc=>?_)<|λhc=>?_;refine zB<|zA rfl<|vr 2 (3<=3)<|vc (sA)<|vrT 1<|vs 36 (Ay<|AI AB<|A1 AB (↑(AH (Ap 32 (↑(uniM v<|Am k fs):Int)|||Ap 32 (↑(msk<|AU f):Int))):Int)) (dig (uniM v (Am k fs)|||msk (AU f))) (hd:=by simp(disch:=omega) only[w5,w4])<|veT<|zA rfl<|vr 5 (True/\0<3)<|vs 41 (iD (if(Aa (AU f):Int)>(↑(bigL v<|Am k fs):Int)then(Aa (AU f):Int)else(↑(bigL v<|Am k fs):Int))) (iD (↑(max (bigL v<|Am k fs)<|Aa<|AU f):Int)) (hd:=by simp(disch:=omega) only[w6])<|vrT 1<|vnil<|zD<|zC<|zE<|zA rfl<|vr 2 (i6 ((k:Int)+(1:Int)))<|vnil<|zC ?_;rotate_left;refine zJ<|zD<|zC<|zE<|zA rfl<|vr 2 (i6 ((k:Int)+(1:Int)))<|vnil<|zC ?_;rotate_left
   ·rw[if_pos hc]at u1 u2;refine⟨k+1,by omega,by omega,?_⟩;rw[u1,u2];refine vk 0
   rw[if_neg hc]at u1 u2;refine⟨k+1,by omega,by omega,?_⟩;rw[u1,u2];refine vk 0
  obtain rfl:k=fs.length:=by omega
  have u3:uniM v fs<4294967296:=zHa v fs 0 (by omega) λf hf=>(hA f hf).2;have hp:=zYu (uniM v fs) u3;rw[BF];have hco:zDp popN fs v=if popN (uniM v fs)=bigL v fs then 0 else popN (uniM v fs):=rfl
  unfold zC0 at hst;generalize popN (uniM v fs)=q at*;focus
   refine zB<|zA rfl<|v0s<|veT<|zB<|vF ((Aa fs:Int)<(Aa fs:Int))<|zT<|zM<|zM<|zR rfl<|zC<|zE<|zB<|zA rfl<|vrT 1<|vc (hp)<|veT<|zB<|zB<|zA rfl<|veT<|zAa (t:=(q:Int)==(↑(bigL v fs):Int)) (by kernel_rfl) (λhc=>?_)<|λhc=>?_;simp only[beq_iff_eq]at hc;refine zA rfl<|veT<|zB<|zA rfl<|vrT 3<|vspD 50 (b<0) (λhc=>?_)<|λhc=>?_;refine veT<|vt<|zA rfl<|vrT 4<|vnil<|zD<|zC<|zE<|zA rfl<|vr 2 (i6 ((i:Int)+(1:Int)))<|vnil<|zC ?_;rotate_left;refine veT<|vcD ((0:Int)<(l:Int)) (λhc=>?_)<|λhc=>?_;refine zA rfl<|vrT 4<|vnil<|zD<|zC<|zE<|zA rfl<|vr 2 (i6 ((i:Int)+(1:Int)))<|vnil<|zC ?_;rotate_left;refine zJ<|zD<|zC<|zE<|zA rfl<|vr 2 (i6 ((i:Int)+(1:Int)))<|vnil<|zC ?_;rotate_left;simp only[beq_eq_false_iff_ne]at hc;refine zJ<|zC<|zE<|zB<|zA rfl<|vrT 3<|vspD 50 (b<0) (λhc=>?_)<|λhc=>?_;refine veT<|vt<|zA rfl<|vrT 4<|vnil<|zD<|zC<|zE<|zA rfl<|vr 2 (i6 ((i:Int)+(1:Int)))<|vnil<|zC ?_;rotate_left;refine veT<|vcD ((q:Int)<(l:Int)) (λhc=>?_)<|λhc=>?_;refine zA rfl<|vrT 4<|vnil<|zD<|zC<|zE<|zA rfl<|vr 2 (i6 ((i:Int)+(1:Int)))<|vnil<|zC ?_;rotate_left;refine zJ<|zD<|zC<|zE<|zA rfl<|vr 2 (i6 ((i:Int)+(1:Int)))<|vnil<|zC ?_;rotate_left
  ·have e:zDp popN fs v=0:=by rw[hco,if_pos (by omega)]
   rw[e,if_pos (by simp only;omega)]at hst;refine⟨i+1,(v:Int),0,⟨by omega,hst.symm⟩,by omega,?_⟩;refine vk 0
  ·have e:zDp popN fs v=0:=by rw[hco,if_pos (by omega)]
   rw[e,if_pos (by simp only;omega)]at hst;refine⟨i+1,(v:Int),0,⟨by omega,hst.symm⟩,by omega,?_⟩;refine vk 0
  ·have e:zDp popN fs v=0:=by rw[hco,if_pos (by omega)]
   rw[e,if_neg (by simp only;omega)]at hst;refine⟨i+1,b,l,⟨by omega,hst.symm⟩,by omega,?_⟩;refine vk 0
  ·have e:zDp popN fs v=q:=by rw[hco,if_neg (by omega)]
   rw[e,if_pos (by simp only;omega)]at hst;refine⟨i+1,(v:Int),q,⟨by omega,hst.symm⟩,by omega,?_⟩;refine vk 0
  ·have e:zDp popN fs v=q:=by rw[hco,if_neg (by omega)]
   rw[e,if_pos (by simp only;omega)]at hst;refine⟨i+1,(v:Int),q,⟨by omega,hst.symm⟩,by omega,?_⟩;refine vk 0
  have e:zDp popN fs v=q:=by rw[hco,if_neg (by omega)]
  rw[e,if_neg (by simp only;omega)]at hst;refine⟨i+1,b,l,⟨by omega,hst.symm⟩,by omega,?_⟩;refine vk 0
 rw[AA (by omega)]at h2;have hcm:=(zEk popN fs hne).2;rw[<-h2]at hcm;refine zB<|zA rfl<|v0s<|veT<|zB<|vF ((i:Int)<(Aa E:Int))<|zT<|zM<|zM<|zR rfl<|zC<|zE<|zB<|zA rfl<|veT<|zK<|vre (True) (Ay<|AI BE b) (.inr rfl) ?_;rw[<-hcm]
end
section
open Go.Shelf
set_option maxRecDepth 16384
def Tryz.grow140_ren:Go.Shelf.Ren:=⟨λ|4=>140|n=>n,λ|22=>61|25=>90|3=>3|4=>4|9=>9|20=>20|0=>0|n=>n,λ|n=>n⟩
theorem Tryz.grow140:Go.Proofs.Lays8.n4 Al Tryz.grow140_ren:={
 mixed:=by kernel_rfl
 f4:=⟨Tryz.f140.name,by decide,Tryz.func140.trans (congrArg Aj (by kernel_rfl))⟩
 t0:=Tryz.underlying0
 a0:=Tryz.isAgg0
 z0:=Tryz.sizeOf0
 v0:=Tryz.zeroValue0
 t3:=Tryz.underlying3
 a3:=Tryz.isAgg3
 z3:=Tryz.sizeOf3
 v3:=Tryz.zeroValue3
 t4:=Tryz.underlying4
 a4:=Tryz.isAgg4
 z4:=Tryz.sizeOf4
 v4:=Tryz.zeroValue4
 t9:=Tryz.underlying9
 a9:=Tryz.isAgg9
 z9:=Tryz.sizeOf9
 v9:=Tryz.zeroValue9
 t20:=Tryz.underlying20
 a20:=Tryz.isAgg20
 z20:=Tryz.sizeOf20
 v20:=Tryz.zeroValue20
 t22:=Tryz.underlying61
 a22:=Tryz.isAgg61
 z22:=Tryz.sizeOf61
 v22:=Tryz.zeroValue61}
def Tryz.grow145_ren:Go.Shelf.Ren:=⟨λ|4=>145|n=>n,λ|22=>37|25=>45|3=>3|4=>4|9=>9|20=>20|0=>0|n=>n,λ|n=>n⟩
theorem Tryz.grow145:Go.Proofs.Lays8.n4 Al Tryz.grow145_ren:={
 mixed:=by kernel_rfl
 f4:=⟨Tryz.f145.name,by decide,Tryz.func145.trans (congrArg Aj (by kernel_rfl))⟩
 t0:=Tryz.underlying0
 a0:=Tryz.isAgg0
 z0:=Tryz.sizeOf0
 v0:=Tryz.zeroValue0
 t3:=Tryz.underlying3
 a3:=Tryz.isAgg3
 z3:=Tryz.sizeOf3
 v3:=Tryz.zeroValue3
 t4:=Tryz.underlying4
 a4:=Tryz.isAgg4
 z4:=Tryz.sizeOf4
 v4:=Tryz.zeroValue4
 t9:=Tryz.underlying9
 a9:=Tryz.isAgg9
 z9:=Tryz.sizeOf9
 v9:=Tryz.zeroValue9
 t20:=Tryz.underlying20
 a20:=Tryz.isAgg20
 z20:=Tryz.sizeOf20
 v20:=Tryz.zeroValue20
 t22:=Tryz.underlying37
 a22:=Tryz.isAgg37
 z22:=Tryz.sizeOf37
 v22:=Tryz.zeroValue37}
def Tryz.grow147_ren:Go.Shelf.Ren:=⟨λ|4=>147|n=>n,λ|22=>38|25=>48|3=>3|4=>4|9=>9|20=>20|0=>0|n=>n,λ|n=>n⟩
theorem Tryz.grow147:Go.Proofs.Lays8.n4 Al Tryz.grow147_ren:={
 mixed:=by kernel_rfl
 f4:=⟨Tryz.f147.name,by decide,Tryz.func147.trans (congrArg Aj (by kernel_rfl))⟩
 t0:=Tryz.underlying0
 a0:=Tryz.isAgg0
 z0:=Tryz.sizeOf0
 v0:=Tryz.zeroValue0
 t3:=Tryz.underlying3
 a3:=Tryz.isAgg3
 z3:=Tryz.sizeOf3
 v3:=Tryz.zeroValue3
 t4:=Tryz.underlying4
 a4:=Tryz.isAgg4
 z4:=Tryz.sizeOf4
 v4:=Tryz.zeroValue4
 t9:=Tryz.underlying9
 a9:=Tryz.isAgg9
 z9:=Tryz.sizeOf9
 v9:=Tryz.zeroValue9
 t20:=Tryz.underlying20
 a20:=Tryz.isAgg20
 z20:=Tryz.sizeOf20
 v20:=Tryz.zeroValue20
 t22:=Tryz.underlying38
 a22:=Tryz.isAgg38
 z22:=Tryz.sizeOf38
 v22:=Tryz.zeroValue38}
end
section
open Go.RowKit
set_option maxRecDepth 4096
abbrev fsB(l:List D):Bk:=⟨l,90,3,Ab,Ac, .plain⟩
theorem grow_c(n:Nat)(hn:0<n)(hb:n<=1000000):Pure Al 140 [nl,iD (n:Nat)] [fsB []] (.osl 0 0 0 0 Ab):=by
 obtain⟨i0,hi0⟩:∃i0,Al.info? 90=Aj i0/\i0.size=3/\i0.bytes=72/\i0.zero=Aj (.agg #[.slice Aq 0 0, .slice Aq 0 0, .slice Aq 0 0]):=⟨(Al.info? 90).getD Ak,by kernel_rfl,by kernel_rfl,by kernel_rfl,by kernel_rfl⟩;obtain⟨h1,h2,h3,h4⟩:=hi0;intro I w vs hr hi hg;rw[zFh [.slice Aq 0 0, .int .i64 n] vs hr];have hc:=Any8.slices_Grow_grow Tryz.grow140 i0 _ h1 h4 (by omega) Aq 0 0 n [] w (A2 _) (by omega) (by rw[h3];omega) (by omega) (by simp) (λ_=>rfl) (λa h=>by cases h);have hge:=grownCap_ge w (0+n) 0 (Tryz.grow140_ren.t 25);have hmx:=grownCap_le_maxLen w (0+n) 0 (Tryz.grow140_ren.t 25) (by unfold maxLen;omega);generalize grownCap w (0+n) 0 (Tryz.grow140_ren.t 25)=G at*;refine hc.mono ?_;rintro e w' ⟨rfl,rfl⟩;have key:∀{k b c:Nat},(if k=0 then Aj (w.heap.size,G)else Aq)=Aj (b,c)->k=0/\b=w.heap.size/\c=G:=λ{k b c} h=>by
  split at h
  ·rename_i e;cases h;exact⟨e,rfl,rfl⟩
  cases h
 have hext:∀o,Ext w (w.drew.alloc o):=λo=>(Ext.drew w).trans (Ext.alloc _ o);refine⟨_,I,λk=>if k=0 then Aj (w.heap.size,G)else Aq,rfl,hext _,λb o hb=>Ct (hi b o hb) (hext _).size,Fix.ext (hext _) λ_ _ h=>h,λ_ _ h=> .inl h,λk b c h=>?_,λk b c h=>?_,λk k' b c c' h h'=>?_,λk b c j e h he hij=>?_,λk y h=>?_,?_,by simp⟩
 ·exact Cg (key h).2.1.symm
 ·obtain⟨rfl,rfl,rfl⟩:=key h;refine⟨fsB [],rfl,OwnC.r ⟨(#[]++Builtin.zeroCells (BZ #[A3 Aq 0 0,A3 Aq 0 0,A3 Aq 0 0]).cells (0+n-0)++Builtin.zeroCells (BZ #[A3 Aq 0 0,A3 Aq 0 0,A3 Aq 0 0]).cells (c-(0+n))).toList,?_,Bw _,?_,λ_=>?_,hmx⟩ rfl⟩
  ·rw[BU];exact heap_alloc_new w.drew _
  ·rfl
  rw[Array.length_toList,Cp,Cp,size_zeroCells,size_zeroCells,show(BZ #[A3 Aq 0 0,A3 Aq 0 0,A3 Aq 0 0]).cells.size=3 from rfl];simp only[List.size_toArray,BS];show _=c*3;omega
 ·rw[(key h).1,(key h').1]
 ·have:=hi b j hij
  have:=(key h).2.1
  omega
 ·have:=(key h).1
  simp;omega
 simp only[Rel];exact .inr (.inr ⟨w.heap.size,G,G,rfl,rfl,Bw _,hmx,λ_=>by simp⟩)
theorem grow0_c:Pure Al 140 [nl,iD ((0:Nat):Int)] [] nl:=
 zC5 (us:=[.slice Aq 0 0, .int .i64 ((0:Nat):Int)]) (λw=>(Any8.slices_Grow_room Tryz.grow140 Aq 0 0 0 w (by omega) (by omega) (by omega) (by omega)).mono λe w' h=>⟨h.1,h.2.symm⟩)
abbrev fsBK(l:List D):Bk:=⟨l,48,3,Ab,Ac, .plain⟩
theorem grow_cK(n:Nat)(hn:0<n)(hb:n<=1000000):Pure Al 147 [nl,iD (n:Nat)] [fsBK []] (.osl 0 0 0 0 Ab):=by
 obtain⟨i0,hi0⟩:∃i0,Al.info? 48=Aj i0/\i0.size=3/\i0.bytes=72/\i0.zero=Aj (.agg #[.slice Aq 0 0, .slice Aq 0 0, .slice Aq 0 0]):=⟨(Al.info? 48).getD Ak,by kernel_rfl,by kernel_rfl,by kernel_rfl,by kernel_rfl⟩;obtain⟨h1,h2,h3,h4⟩:=hi0;intro I w vs hr hi hg;rw[zFh [.slice Aq 0 0, .int .i64 n] vs hr];have hc:=Any8.slices_Grow_grow Tryz.grow147 i0 _ h1 h4 (by omega) Aq 0 0 n [] w (A2 _) (by omega) (by rw[h3];omega) (by omega) (by simp) (λ_=>rfl) (λa h=>by cases h);have hge:=grownCap_ge w (0+n) 0 (Tryz.grow147_ren.t 25);have hmx:=grownCap_le_maxLen w (0+n) 0 (Tryz.grow147_ren.t 25) (by unfold maxLen;omega);generalize grownCap w (0+n) 0 (Tryz.grow147_ren.t 25)=G at*;refine hc.mono ?_;rintro e w' ⟨rfl,rfl⟩;have key:∀{k b c:Nat},(if k=0 then Aj (w.heap.size,G)else Aq)=Aj (b,c)->k=0/\b=w.heap.size/\c=G:=λ{k b c} h=>by
  split at h
  ·rename_i e;cases h;exact⟨e,rfl,rfl⟩
  cases h
 have hext:∀o,Ext w (w.drew.alloc o):=λo=>(Ext.drew w).trans (Ext.alloc _ o);refine⟨_,I,λk=>if k=0 then Aj (w.heap.size,G)else Aq,rfl,hext _,λb o hb=>Ct (hi b o hb) (hext _).size,Fix.ext (hext _) λ_ _ h=>h,λ_ _ h=> .inl h,λk b c h=>?_,λk b c h=>?_,λk k' b c c' h h'=>?_,λk b c j e h he hij=>?_,λk y h=>?_,?_,by simp⟩
 ·exact Cg (key h).2.1.symm
 ·obtain⟨rfl,rfl,rfl⟩:=key h;refine⟨fsBK [],rfl,OwnC.r ⟨(#[]++Builtin.zeroCells (BZ #[A3 Aq 0 0,A3 Aq 0 0,A3 Aq 0 0]).cells (0+n-0)++Builtin.zeroCells (BZ #[A3 Aq 0 0,A3 Aq 0 0,A3 Aq 0 0]).cells (c-(0+n))).toList,?_,Bw _,?_,λ_=>?_,hmx⟩ rfl⟩
  ·rw[BU];exact heap_alloc_new w.drew _
  ·rfl
  rw[Array.length_toList,Cp,Cp,size_zeroCells,size_zeroCells,show(BZ #[A3 Aq 0 0,A3 Aq 0 0,A3 Aq 0 0]).cells.size=3 from rfl];simp only[List.size_toArray,BS];show _=c*3;omega
 ·rw[(key h).1,(key h').1]
 ·have:=hi b j hij
  have:=(key h).2.1
  omega
 ·have:=(key h).1
  simp;omega
 simp only[Rel];exact .inr (.inr ⟨w.heap.size,G,G,rfl,rfl,Bw _,hmx,λ_=>by simp⟩)
theorem grow0_cK:Pure Al 147 [nl,iD ((0:Nat):Int)] [] nl:=
 zC5 (us:=[.slice Aq 0 0, .int .i64 ((0:Nat):Int)]) (λw=>(Any8.slices_Grow_room Tryz.grow147 Aq 0 0 0 w (by omega) (by omega) (by omega) (by omega)).mono λe w' h=>⟨h.1,h.2.symm⟩)
end
section
open Go.RowKit
attribute [local irreducible] seqW awp zAe zAh zAb Weak updS zAs retL Pure Acts rP setP setQ cP nP fr
set_option maxRecDepth 4096
set_option maxHeartbeats 2000000 in
theorem concat_c(a b:List D)(n m:Nat)(ha:a.length=n*3)(hb:b.length=m*3)(hn:n<=1000)(hm:m<=1000)(n1:∀d∈a,True):Pure Al 90 [.row [.row a n, .row b m] 2] [] (.row (a++b) (n+m)):=by
 have zadd:(n:Int)+(m:Int)=((n+m:Nat):Int):=by omega
 have ht:(a++b).take ((n+m)*3)=a++b:=AA (by rw[A8];omega);rcases Cj (n+m)with h|h
 ·obtain rfl:n=0:=by omega
  obtain rfl:m=0:=by omega
  obtain rfl:a=[]:=BG (by omega);obtain rfl:b=[]:=BG (by omega);refine zH zCf mixed Tryz.func90 rfl<|vAu<|vAe<|zB<|vAe<|zF<|zW<|vAe<|zB<|vt<|vKB<|vA<|ve (ix (0:Int) (↑(2:Nat):Int) ([Ae [] 0,Ae [] 0]≠[])/\0<2)<|vA<|ve (i6 ((0:Int)+(↑(0:Nat):Int)))<|vAe<|vf<|zJ<|zD<|vN<|zA rfl<|vr 2 (i6 ((0:Int)+(1:Int)))<|vnil<|zC<|zW ?_;refine vAe<|zB<|vt<|vKB<|vA<|ve (ix (1:Int) (↑(2:Nat):Int) ([Ae [] 0,Ae [] 0]≠[])/\0<1)<|vA<|ve (i6 ((0:Int)+(↑(0:Nat):Int)+(↑(0:Nat):Int)))<|vAe<|vf<|zJ<|zD<|vN<|zA rfl<|vr 2 (i6 ((1:Int)+(1:Int)))<|vnil<|zC<|zW<|vAe<|zB<|vf<|vZ2<|vA<|vrT 1<|vc grow0_c<|veT<|zB<|vAe<|zF<|zW<|vAe<|zB<|vt<|vKB<|vA<|ve (ix (0:Int) (↑(2:Nat):Int) ([Ae [] 0,Ae [] 0]≠[])/\0<2)<|zA rfl<|vr 4 (0=0/\0<3/\0<72/\90=90/\0<=140737488355328/\3=3)<|vnil<|zD<|vN<|zA rfl<|vr 2 (i6 ((0:Int)+(1:Int)))<|vnil<|zC<|zW<|vAe<|zB<|vt<|vKB<|vA<|ve (ix (1:Int) (↑(2:Nat):Int) ([Ae [] 0,Ae [] 0]≠[])/\0<1)<|zA rfl<|vr 4 (Ab=Ab/\0=0/\0=0/\90=90/\3=3/\0=0/\0<3/\0<72/\90=90/\0<=140737488355328/\3=3/\Ac=Ac/\(Ac=Ac\/Ac=Ab))<|vnil<|zD<|vN<|zA rfl<|vr 2 (i6 ((1:Int)+(1:Int)))<|vnil<|zC<|zW<|vAe<|zB<|vf<|vZ2<|vAe<|zK<|vret (True)<|.inr rfl
 have hg:=grow_c (n+m) h (by omega);refine zH zCf mixed Tryz.func90 rfl<|vAu<|vAe<|zB<|vAe<|zF<|zW<|vAe<|zB<|vt<|vKB<|vA<|ve (ix (0:Int) (↑(2:Nat):Int) ([Ae a n,Ae b m]≠[])/\0<2)<|vA<|vr 4 (i6 ((0:Int)+(n:Int)))<|vs 18 (iD ((0:Int)+(n:Int))) (iD (n:Int)) (hd:=by simp(disch:=omega) only[Int.zero_add])<|veT<|vAe<|vF ((n:Int)<0)<|zJ<|zD<|vN<|zA rfl<|vr 2 (i6 ((0:Int)+(1:Int)))<|vnil<|zC<|zW<|vAe<|zB<|vt<|vKB<|vA<|ve (ix (1:Int) (↑(2:Nat):Int) ([Ae a n,Ae b m]≠[])/\0<1)<|vA<|ve (i6 ((n:Int)+(m:Int)))<|vAe<|vF ((↑(n+m):Int)<0)<|zJ<|zD<|vN<|zA rfl<|vr 2 (i6 ((1:Int)+(1:Int)))<|vnil<|zC<|zW<|vAe<|zB<|vf<|vZ2<|vA<|vrT 1<|vn (hg)<|veT<|zB<|vAe<|zF<|zW<|vAe<|zB<|vt<|vKB<|vA<|ve (ix (0:Int) (↑(2:Nat):Int) ([Ae a n,Ae b m]≠[])/\0<2)<|zA rfl<|vr 4 (Ab=Ab/\0=0/\0=0/\90=90/\3=3/\Aa a=n*3/\0<3/\0<72/\90=90/\(0+n)*72<=140737488355328/\3=3/\Ac=Ac/\(Ac=Ac\/Ac=Ab))<|vs 6 (Ah 0 0 (0+n) ((0+n)*3) Ab) (Ah 0 0 n (n*3) Ab) (hd:=by simp(disch:=omega) only[BH])<|vnil<|zD<|vN<|zA rfl<|vr 2 (i6 ((0:Int)+(1:Int)))<|vnil<|zC<|zW<|vAe<|zB<|vt<|vKB<|vA<|ve (ix (1:Int) (↑(2:Nat):Int) ([Ae a n,Ae b m]≠[])/\0<1)<|zA rfl<|vr 4 (AV (An a 90 3 Ab Ac Ao)=Ab/\Aa a=n*3/\n*3=n*3/\AM (An a 90 3 Ab Ac Ao)=90/\AN (An a 90 3 Ab Ac Ao)=3/\Aa b=m*3/\0<3/\0<72/\90=90/\(n+m)*72<=140737488355328/\3=3/\AK (Ax<|An a 90 3 Ab Ac Ao)=Ac/\(Ac=Ac\/AL (Ax<|An a 90 3 Ab Ac Ao)=Ab))<|vnil<|zD<|vN<|zA rfl<|vr 2 (i6 ((1:Int)+(1:Int)))<|vnil<|zC<|zW<|vAe<|zB<|vf<|vZ2<|vAe<|zK<|zBr (True) (Ae (Am ((n+m)*3)<|Ag 0 (a++b)) (n+m)) (Ae (a++b) (n+m)) (.inr rfl) (by simp(disch:=omega) only[AY,ht]) rfl
theorem info_fas:(Al.info? 90).map (λi=>(i.zero,i.size,i.bytes))=Aj (Aj (.agg #[.slice Aq 0 0, .slice Aq 0 0, .slice Aq 0 0]),3,72):=by kernel_rfl
set_option maxHeartbeats 400000 in
theorem clone0_fas:Pure Al 46 [.row [] 0] [⟨[],90,3,Ab,Ac, .plain⟩] (.osl 0 0 0 0 Ab):=by
 refine zHy λI w vs hr=>?_;simp only[RelT,Rel]at hr;obtain⟨v,ys,rfl,⟨a,c,rfl,_,_,hc,_⟩,rfl⟩:=hr;cases a with
 |none=>
  obtain rfl:=hc rfl;have he:=λ(w:World)=>Cq (P:=Al) w 61 90 Aq 0 0 0 0 Tryz.underlying61;go_enter Tryz.func46,Tryz.ntmps46;go_wp2;go_ret;exact .inl ⟨rfl,Ext.refl _⟩
 |some x=>
  obtain⟨i0,hi,hz0,hz1,hz2⟩:=info_parts info_fas;have he:=λ(w:World)=>Cq (P:=Al) w 61 90 (Aj x) 0 c 0 0 Tryz.underlying61;have hS:RowAt (λ_=>True) w (Aj x) []:= .inl rfl;go_enter Tryz.func46,Tryz.ntmps46;go_wp2_with (at_builtin;refine zB3 rfl _ _ 61 rfl w.heap.size 90 i0 (.agg #[.slice Aq 0 0, .slice Aq 0 0, .slice Aq 0 0]) 3 72 Tryz.underlying61 hi hz0 hz1 hz2 rfl (by decide) (.slice (Aj ⟨w.heap.size,0,Aq⟩) 0 0) 0 [] rfl (World.ownsRow_made _ #[] 0 (A2 _) (Bw _) rfl) x 0 c [] rfl (by simp) (by simp) (by simp) (by simp[maxLen]) (by decide) (by simp) ?_;intro v' w' hown hgrow hdr);go_ret;have hext:Ext w w':=⟨((Below.refl _ _).alloc (A2 _) _).grown hgrow (by simp) (by simp[Value.ownBlock]),hdr⟩;obtain⟨_,⟨rfl,_⟩|⟨g,cap,cur,rfl,hb,hg,_,hc1,hs,_⟩⟩:=hown
  ·exact .inl ⟨rfl,hext⟩
  exact .inr ⟨g,cur.toList,cap,rfl,hb,hext,by rw[BU];exact hg,by simpa using hs,hc1⟩
theorem cloneF_c(a:List D)(n:Nat)(ha:a.length=n*3)(hn:n<=1000):Pure Al 46 [.row a n] [] (.row a n):=by
 by_cases h0:n=0
 ·subst h0;obtain rfl:a=[]:=BG (by omega);exact clone0_fas.frozen rfl rfl
 have h1:0<n:=by omega
 have ht:a.take (n*3)=a:=AA (by omega);refine zH zCf mixed Tryz.func46 rfl<|vAu<|zB<|vA<|ve (0<n)<|vf<|vK<|vA<|vr 4 ((True/\0<3/\3=3/\0<=16777216/\0<=9223372036854775807)/\Ab=Ab/\0=0/\0=0/\90=90/\3=3/\Aa a=n*3/\0<3/\0<72/\90=90/\(0+n)*72<=140737488355328/\3=3/\Ac=Ac/\(Ac=Ac\/Ac=Ab))<|vs 2 (Ah 0 0 (0+n) ((0+n)*3) Ab) (Ah 0 0 n (n*3) Ab) (hd:=by simp(disch:=omega) only[BH])<|veT<|zK<|zBr (True) (Ae (Am (n*3)<|Ag 0 a) n) (Ae a n) (.inr rfl) (by simp(disch:=omega) only[AY,ht]) rfl
set_option maxHeartbeats 2000000 in
theorem concat_cK(a b:List D)(n m:Nat)(ha:a.length=n*3)(hb:b.length=m*3)(hn:n<=1000)(hm:m<=1000)(n1:∀d∈a,True):Pure Al 107 [.row [.row a n, .row b m] 2] [] (.row (a++b) (n+m)):=by
 have zadd:(n:Int)+(m:Int)=((n+m:Nat):Int):=by omega
 have ht:(a++b).take ((n+m)*3)=a++b:=AA (by rw[A8];omega);rcases Cj (n+m)with h|h
 ·obtain rfl:n=0:=by omega
  obtain rfl:m=0:=by omega
  obtain rfl:a=[]:=BG (by omega);obtain rfl:b=[]:=BG (by omega);refine zH zCf mixed Tryz.func107 rfl<|zB<|zA rfl<|v0s<|veT<|zB<|zA rfl<|veT<|zB<|zB<|zA rfl<|veT<|zF<|zW<|zB<|zA rfl<|veT<|zB<|vt<|zJ<|zC<|zE<|zB<|zF<|zB<|zA rfl<|ve (ix (0:Int) (↑(2:Nat):Int) ([Ae [] 0,Ae [] 0]≠[])/\0<2)<|zB<|zA rfl<|ve (i6 ((0:Int)+(↑(0:Nat):Int)))<|zB<|zA rfl<|veT<|vf<|zJ<|zD<|zC<|zE<|zA rfl<|vr 2 (i6 ((0:Int)+(1:Int)))<|vnil<|zC<|zW ?_;refine zB<|zA rfl<|veT<|zB<|vt<|zJ<|zC<|zE<|zB<|zF<|zB<|zA rfl<|ve (ix (1:Int) (↑(2:Nat):Int) ([Ae [] 0,Ae [] 0]≠[])/\0<1)<|zB<|zA rfl<|ve (i6 ((0:Int)+(↑(0:Nat):Int)+(↑(0:Nat):Int)))<|zB<|zA rfl<|veT<|vf<|zJ<|zD<|zC<|zE<|zA rfl<|vr 2 (i6 ((1:Int)+(1:Int)))<|vnil<|zC<|zW<|zB<|zA rfl<|veT<|zB<|vf<|zT<|zM<|zM<|zR rfl<|zC<|zE<|zB<|zA rfl<|vrT 1<|vc (grow0_cK)<|veT<|zB<|zB<|zA rfl<|veT<|zF<|zW<|zB<|zA rfl<|veT<|zB<|vt<|zJ<|zC<|zE<|zB<|zF<|zB<|zA rfl<|ve (ix (0:Int) (↑(2:Nat):Int) ([Ae [] 0,Ae [] 0]≠[])/\0<2)<|zA rfl<|vr 4 (0=0/\0<3/\0<72/\48=48/\0<=140737488355328/\3=3)<|vnil<|zD<|zC<|zE<|zA rfl<|vr 2 (i6 ((0:Int)+(1:Int)))<|vnil<|zC<|zW<|zB<|zA rfl<|veT<|zB<|vt<|zJ<|zC<|zE<|zB<|zF<|zB<|zA rfl<|ve (ix (1:Int) (↑(2:Nat):Int) ([Ae [] 0,Ae [] 0]≠[])/\0<1)<|zA rfl<|vr 4 (Ab=Ab/\0=0/\0=0/\48=48/\3=3/\0=0/\0<3/\0<72/\48=48/\0<=140737488355328/\3=3/\Ac=Ac/\(Ac=Ac\/Ac=Ab))<|vnil<|zD<|zC<|zE<|zA rfl<|vr 2 (i6 ((1:Int)+(1:Int)))<|vnil<|zC<|zW<|zB<|zA rfl<|veT<|zB<|vf<|zT<|zM<|zM<|zR rfl<|zC<|zE<|zB<|zA rfl<|veT<|zK<|vret (True)<|.inr rfl
 have hg:=grow_cK (n+m) h (by omega);refine zH zCf mixed Tryz.func107 rfl<|zB<|zA rfl<|v0s<|veT<|zB<|zA rfl<|veT<|zB<|zB<|zA rfl<|veT<|zF<|zW<|zB<|zA rfl<|veT<|zB<|vt<|zJ<|zC<|zE<|zB<|zF<|zB<|zA rfl<|ve (ix (0:Int) (↑(2:Nat):Int) ([Ae a n,Ae b m]≠[])/\0<2)<|zB<|zA rfl<|vr 4 (i6 ((0:Int)+(n:Int)))<|vs 18 (iD ((0:Int)+(n:Int))) (iD (n:Int)) (hd:=by simp(disch:=omega) only[Int.zero_add])<|veT<|zB<|zA rfl<|veT<|vF ((n:Int)<0)<|zJ<|zD<|zC<|zE<|zA rfl<|vr 2 (i6 ((0:Int)+(1:Int)))<|vnil<|zC<|zW<|zB<|zA rfl<|veT<|zB<|vt<|zJ<|zC<|zE<|zB<|zF<|zB<|zA rfl<|ve (ix (1:Int) (↑(2:Nat):Int) ([Ae a n,Ae b m]≠[])/\0<1)<|zB<|zA rfl<|ve (i6 ((n:Int)+(m:Int)))<|zB<|zA rfl<|veT<|vF ((↑(n+m):Int)<0)<|zJ<|zD<|zC<|zE<|zA rfl<|vr 2 (i6 ((1:Int)+(1:Int)))<|vnil<|zC<|zW<|zB<|zA rfl<|veT<|zB<|vf<|zT<|zM<|zM<|zR rfl<|zC<|zE<|zB<|zA rfl<|vrT 1<|vn (hg)<|veT<|zB<|zB<|zA rfl<|veT<|zF<|zW<|zB<|zA rfl<|veT<|zB<|vt<|zJ<|zC<|zE<|zB<|zF<|zB<|zA rfl<|ve (ix (0:Int) (↑(2:Nat):Int) ([Ae a n,Ae b m]≠[])/\0<2)<|zA rfl<|vr 4 (Ab=Ab/\0=0/\0=0/\48=48/\3=3/\Aa a=n*3/\0<3/\0<72/\48=48/\(0+n)*72<=140737488355328/\3=3/\Ac=Ac/\(Ac=Ac\/Ac=Ab))<|vs 6 (Ah 0 0 (0+n) ((0+n)*3) Ab) (Ah 0 0 n (n*3) Ab) (hd:=by simp(disch:=omega) only[BH])<|vnil<|zD<|zC<|zE<|zA rfl<|vr 2 (i6 ((0:Int)+(1:Int)))<|vnil<|zC<|zW<|zB<|zA rfl<|veT<|zB<|vt<|zJ<|zC<|zE<|zB<|zF<|zB<|zA rfl<|ve (ix (1:Int) (↑(2:Nat):Int) ([Ae a n,Ae b m]≠[])/\0<1)<|zA rfl<|vr 4 (AV (An a 48 3 Ab Ac Ao)=Ab/\Aa a=n*3/\n*3=n*3/\AM (An a 48 3 Ab Ac Ao)=48/\AN (An a 48 3 Ab Ac Ao)=3/\Aa b=m*3/\0<3/\0<72/\48=48/\(n+m)*72<=140737488355328/\3=3/\AK (Ax<|An a 48 3 Ab Ac Ao)=Ac/\(Ac=Ac\/AL (Ax<|An a 48 3 Ab Ac Ao)=Ab))<|vnil<|zD<|zC<|zE<|zA rfl<|vr 2 (i6 ((1:Int)+(1:Int)))<|vnil<|zC<|zW<|zB<|zA rfl<|veT<|zB<|vf<|zT<|zM<|zM<|zR rfl<|zC<|zE<|zB<|zA rfl<|veT<|zK<|zBr (True) (Ae (Am ((n+m)*3)<|Ag 0 (a++b)) (n+m)) (Ae (a++b) (n+m)) (.inr rfl) (by simp(disch:=omega) only[AY,ht]) rfl
theorem zZp:(Al.info? 48).map (λi=>(i.zero,i.size,i.bytes))=Aj (Aj (.agg #[.slice Aq 0 0, .slice Aq 0 0, .slice Aq 0 0]),3,72):=by kernel_rfl
set_option maxHeartbeats 400000 in
theorem clone0_fasK:Pure Al 59 [.row [] 0] [⟨[],48,3,Ab,Ac, .plain⟩] (.osl 0 0 0 0 Ab):=by
 refine zHy λI w vs hr=>?_;simp only[RelT,Rel]at hr;obtain⟨v,ys,rfl,⟨a,c,rfl,_,_,hc,_⟩,rfl⟩:=hr;cases a with
 |none=>
  obtain rfl:=hc rfl;have he:=λ(w:World)=>Cq (P:=Al) w 38 48 Aq 0 0 0 0 Tryz.underlying38;go_enter Tryz.func59,Tryz.ntmps59;go_wp2;go_ret;exact .inl ⟨rfl,Ext.refl _⟩
 |some x=>
  obtain⟨i0,hi,hz0,hz1,hz2⟩:=info_parts zZp;have he:=λ(w:World)=>Cq (P:=Al) w 38 48 (Aj x) 0 c 0 0 Tryz.underlying38;have hS:RowAt (λ_=>True) w (Aj x) []:= .inl rfl;go_enter Tryz.func59,Tryz.ntmps59;go_wp2_with (at_builtin;refine zB3 rfl _ _ 38 rfl w.heap.size 48 i0 (.agg #[.slice Aq 0 0, .slice Aq 0 0, .slice Aq 0 0]) 3 72 Tryz.underlying38 hi hz0 hz1 hz2 rfl (by decide) (.slice (Aj ⟨w.heap.size,0,Aq⟩) 0 0) 0 [] rfl (World.ownsRow_made _ #[] 0 (A2 _) (Bw _) rfl) x 0 c [] rfl (by simp) (by simp) (by simp) (by simp[maxLen]) (by decide) (by simp) ?_;intro v' w' hown hgrow hdr);go_ret;have hext:Ext w w':=⟨((Below.refl _ _).alloc (A2 _) _).grown hgrow (by simp) (by simp[Value.ownBlock]),hdr⟩;obtain⟨_,⟨rfl,_⟩|⟨g,cap,cur,rfl,hb,hg,_,hc1,hs,_⟩⟩:=hown
  ·exact .inl ⟨rfl,hext⟩
  exact .inr ⟨g,cur.toList,cap,rfl,hb,hext,by rw[BU];exact hg,by simpa using hs,hc1⟩
theorem cloneF_cK(a:List D)(n:Nat)(ha:a.length=n*3)(hn:n<=1000):Pure Al 59 [.row a n] [] (.row a n):=by
 by_cases h0:n=0
 ·subst h0;obtain rfl:a=[]:=BG (by omega);exact clone0_fasK.frozen rfl rfl
 have h1:0<n:=by omega
 have ht:a.take (n*3)=a:=AA (by omega);refine zH zCf mixed Tryz.func59 rfl<|zB<|zA rfl<|v0s<|veT<|zB<|zB<|zA rfl<|ve (0<n)<|vf<|zJ<|zC<|zE<|zB<|zA rfl<|vr 4 ((True/\0<3/\3=3/\0<=16777216/\0<=9223372036854775807)/\Ab=Ab/\0=0/\0=0/\48=48/\3=3/\Aa a=n*3/\0<3/\0<72/\48=48/\(0+n)*72<=140737488355328/\3=3/\Ac=Ac/\(Ac=Ac\/Ac=Ab))<|vs 2 (Ah 0 0 (0+n) ((0+n)*3) Ab) (Ah 0 0 n (n*3) Ab) (hd:=by simp(disch:=omega) only[BH])<|veT<|zK<|zBr (True) (Ae (Am (n*3)<|Ag 0 a) n) (Ae a n) (.inr rfl) (by simp(disch:=omega) only[AY,ht]) rfl
end
section
open Go.RowKit
section
variable {T : Par} {sl : List D} {st : List Bk}
theorem Weak.leC{j i:Nat}{ej:Bk}{d d':D}(hj:st[j]?=Aj ej)(hm:ej.kd.isMap=Ac)(hi:ej.cells[i]?=Aj d)(hd:LeD d d'):Weak T sl st sl (st.set j {ej with cells:=ej.cells.set i d'}):=by
 intro β I w tm h;have hjl:j<st.length:=(Bj.1 hj).1;have hget:∀k,(st.set j {ej with cells:=ej.cells.set i d'})[k]?=if k=j then Aj {ej with cells:=ej.cells.set i d'}else st[k]?:=λk=>by
  grind
 refine⟨β,I,⟨h.rel,λk b' c hk=>?_,h.inj,λk b' c o e hk he hi'=>?_,λk y hk=>?_,h.imb,h.gl⟩,Stp.refl _ _ _,Kp.refl _ _⟩
 ·obtain⟨e,k1,k2⟩:=h.sr k b' c hk;rw[hget k];by_cases hkj:k=j
  ·subst hkj;rw[hj]at k1;cases k1;refine⟨_,if_pos rfl,?_⟩;obtain⟨cur,c1,c2,c3,c4⟩:=k2.c hm;refine OwnC.r ⟨cur,c1,by simpa using c2,?_,c4⟩ hm;have hn2:({ej with cells:=ej.cells.set i d'}:Bk).nob=ej.nob:=rfl;rw[hn2];simp only[CE];refine c3.putAt λd0 v hd0 hv hr=>?_;rw[hi]at hd0;cases hd0;exact hd _ _ _ _ hr
  grind
 ·rw[hget k]at he;by_cases hkj:k=j
  ·subst hkj;rw[if_pos rfl]at he;cases he
   have:=h.fz k b' c o ej hk hj hi'
   grind
  rw[if_neg hkj]at he;exact h.fz k b' c o e hk he hi'
 rw[CE];exact h.dom k y hk
theorem LeL.setD:∀{sl:List D}{i:Nat}{d d':D},sl[i]?=Aj d->LeD d d'->LeL sl (sl.set i d')
 |[],i,d,d',h,_=>by simp at h
 |e::sl,0,d,d',h,hd=>by
  simp only[List.getElem?_cons_zero,Cf.injEq]at h;subst h;exact .cons hd (By sl)
 |e::sl,i+1,d,d',h,hd=> .cons (LeD.refl e) (LeL.setD (by simpa using h) hd)
theorem Weak.leS{s:Nat}{d d':D}(hs:sl[s]?=Aj d)(hd:LeD d d'):Weak T sl st (sl.set s d') st:=Weak.slots (LeL.setD hs hd)
theorem LeD.osr_row(k off n m:Nat)(wh:Bool)(cs:List D):LeD (.osr k off n m wh cs) (.row cs n):=λI w β v h=>by
 simp only[Rel]at h⊢;exact h.2
end
end
end Go.Proofs.YtmfamhoopjeaiaaGreatDoor
