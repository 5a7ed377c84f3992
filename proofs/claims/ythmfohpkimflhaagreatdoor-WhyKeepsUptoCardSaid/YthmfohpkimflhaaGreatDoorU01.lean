/- Texts of this claim, joined. -/
import Derived.WalkKit
import Derived.WalkSpells
import Derived.WalkLawsBesides
import Derived.Lib.Hide
import Derived.Laws.AppendOwnNone
import Derived.BigQuiet
import Derived.Deep.QuietTactic
import Derived.OrdersHeld
import Derived.RegionTactic
import Derived.Lib.ItoaNum
import Derived.Deep.MidRow
import Derived.Lib.SliceRun
import Derived.Laws.StructEq
import Derived.Laws.MakeOwn
import Derived.MapKept
import Derived.Lib.AppendStr
set_option linter.unusedVariables false
set_option linter.unusedSimpArgs false
namespace Go.Proofs.YthmfohpkimflhaaGreatDoor
open _root_.Option renaming some->Aa,none->Ac,some->Ah,map_some->Aq,map_eq_some_iff->As,isSome_iff_exists->Bd,bind_some->Bf,bind_eq_some_iff->Bp,isNone_iff_eq_none->Bq
open _root_.Bool renaming true->Ab,false->Ad,false_eq_true->Al,and_eq_true->Av,true_eq_false->AJ,not_eq_false'->AU,not_eq_true'->A3,or_eq_true->A8,false_or->Bn
open Sem renaming run_bind->Ae,run_pure->An,run->Ap
open _root_.Nat renaming le_refl->Af,mul_le_mul_right->Ay,le_trans->Az,lt_or_ge->AG,zero_le->AI,add_zero->AL,zero_add->AO,lt_trichotomy->AZ,lt_of_lt_of_le->A2
open Result renaming andThen_ok->Ag,andThen->Bg
open _root_.Inhabited renaming default->Ai
open _root_.List renaming getElem?_eq_getElem->Aj,getElem?_eq_some_iff->Ak,getElem?_take->Ar,map_cons->Au,getElem?_map->Ax,getD_eq_getElem?_getD->AC,map_nil->AD,all_eq_true->AE,length_append->AF,getElem?_set_ne->AH,ext_getElem?->AK,mem_cons_self->AM,getElem?_append_left->AQ,eq_nil_of_length_eq_zero->AR,mem_cons_of_mem->AS,getElem?_append_right->AV,getElem?_set_self->AW,length_take->AX,map_congr_left->AY,getElem?_drop->A0,replicate->A1,mem_map->A4,mem_of_getElem?->A5,mem_iff_getElem?->A6,getElem?_cons_zero->A7,take_length->A_,length_set->Ba,cons_append->Bb,getElem?_set->Bc,take_of_length_le->Bh,take_zero->Bi,getElem?_append->Bj,length_map->Bl,mem_toArray->Bm,setIfInBounds_toArray->Bo,pairwise_iff_getElem->Br
open _root_.Prod renaming mk->Am
open _root_.Array renaming getElem?_eq_some_iff->Ao,ext'->Aw,getElem?_toList->AN,toList_map->AT,size_setIfInBounds->Bs
open _root_.BitVec renaming ofInt->AA
open _root_.UInt8 renaming ofNat->AB
open Value renaming ownBlock->AP
open Lib renaming strCells->A9
section
open Go.RowKit
section
variable {S : Nat → Prop}
def Ext(w w':World):Prop:=Below w.heap.size w w'/\w.drawn<=w'.drawn
theorem Ext.refl(w:World):Ext w w:=⟨Below.refl _ _,Af _⟩
theorem Ext.size{w w':World}(h:Ext w w'):w.heap.size<=w'.heap.size:=Below.size h.1
theorem ask_dr{α:Type}:∀(x:Ask α)(w:World),w.drawn<=(w.ask x).2.drawn
 | .done a,w=>Af _
 | .ask what range k,w=>by
  simp only[World.ask];split
  ·exact ask_dr _ _
  exact Az (Nat.le_succ w.drawn) (ask_dr (k _) {w with drawn:=w.drawn+1})
theorem sys_dr(w:World)(c:Sys):w.drawn<=(w.sys c).2.drawn:=by
 unfold World.sys;have h:=ask_dr (Kernel.perform c w.os) w;grind
theorem view_dr{P:Program}{w:World}{a k:Addr}{u:TypeId}{v:Value}{at_:Bool}{r:World×List Addr}(h:w.viewStore P a u k v at_= .ok r):r.1.drawn=w.drawn:=by
 unfold World.viewStore at h;simp only[bind,Except.bind,pure,Except.pure,throw,throwThe,MonadExceptOf.throw]at h;(repeat' split at h)<;>first|cases h;done|(cases h;rfl)
theorem far_dr{P:Program}{w:World}{a:Addr}{v:Value}{at_:Bool}{r:World×List Addr}(h:w.farStore P a v at_= .ok r):r.1.drawn=w.drawn:=by
 unfold World.farStore at h;grind [view_dr]
theorem zB7{P:Program}{α:Type}:∀(s:Sem α)(w:World){a:α}{w':World},s.run P w= .ok a w'->w.drawn<=w'.drawn
 | .pure a,w,_,_,h=>by simp only[Ap]at h;cases h;exact Af _
 | .load m a k,w,_,_,h=>by
  simp only[Ap]at h;(repeat' split at h)<;>first|cases h;done|exact zB7 _ _ h
 | .store m a v k,w,_,_,h=>by
  cases v<;>simp only[Ap]at h<;>first|cases h;done|skip
  all_goals
   split at h
   ·split at h
    ·cases h
    have:=zB7 k _ h
    exact this
   split at h
   ·rename_i e
    have:=zB7 k _ h
    rw[<-far_dr e];exact this
   cases h
 | .new o k,w,_,_,h=>by
  simp only[Ap]at h
  have:=zB7 (k _) _ h
  exact this
 | .shape r k,w,_,_,h=>by simp only[Ap]at h;exact zB7 (k _) _ h
 | .freeze a n k,w,_,_,h=>by
  simp only[Ap]at h
  have:=zB7 k _ h
  unfold World.freeze at this;split at this<;>exact this
 | .frozen a k,w,_,_,h=>by simp only[Ap]at h;exact zB7 (k _) _ h
 | .getObj r k,w,_,_,h=>by
  simp only[Ap]at h;(repeat' split at h)<;>first|cases h;done|exact zB7 (k _) _ h
 | .setObj r o k,w,_,_,h=>by
  simp only[Ap]at h;(repeat' split at h)<;>first|cases h;done|(have:=zB7 k _ h;exact this)
 | .choose q k,w,_,_,h=>by
  simp only[Ap]at h;split at h
  ·exact zB7 (k 0) _ h
  exact Az (Nat.le_succ w.drawn) (zB7 (k _) {w with drawn:=w.drawn+1} h)
 | .sys c k,w,_,_,h=>by simp only[Ap]at h;exact Az (sys_dr w c) (zB7 (k _) _ h)
 | .program k,w,_,_,h=>by simp only[Ap]at h;exact zB7 (k _) _ h
 | .mark m k,w,_,_,h=>by simp only[Ap]at h;exact zB7 k _ h
 | .halt h',w,_,_,h=>by simp only[Ap]at h;cases h
theorem Ext.trans{a b c:World}(h:Ext a b)(k:Ext b c):Ext a c:=
 ⟨Go.RowKit.Below.trans h.1 (Go.RowKit.Below.mono k.1 h.size),Az h.2 k.2⟩
theorem Ext.cell{w w':World}(h:Ext w w'){a:Addr}{v:Value}(hc:w.cell? a=Aa v):w'.cell? a=Aa v:=by
 rw[Below.cell h.1 (World.block_lt_of_cell? w a hc)];exact hc
theorem Ext.alloc(w:World)(o:Obj):Ext w (w.alloc o):=⟨(Below.refl _ _).alloc (Af _) o,Af _⟩
theorem Ext.drew(w:World):Ext w w.drew:=⟨(Below.refl _ _).drew,Nat.le_succ _⟩
def RowAt(S:Nat->Prop)(w:World)(a:Option Addr)(cs:List Value):Prop:=
 cs=[]\/∃b o,a=Aa ⟨b,o,Ac⟩/\S b/\∀i,i<cs.length->w.cell? ⟨b,o+i,Ac⟩=cs[i]?
theorem zDb(l:List Nat)(n:Nat)(h:n<l.length):l.take (n+1)=l.take n++[l.getD n 0]:=by
 simp_all
theorem take_set(l:List Nat)(k v:Nat):(l.set k v).take k=l.take k:=by
 apply AK;grind
end
structure Grows(R:World->World->Prop):Prop where
 refl:∀w,R w w
 trans:∀{a b c:World},R a b->R b c->R a c
section
variable {G S : Nat → Prop}
end
section
variable {P : Program} {ops : Array Oper} {Q : Exit → Act → World → Prop} {md : Region.Mode} {tl : Nat → Bool} {R : World → World → Prop}
def Closed(md:Region.Mode)(ops:Array Oper)(listed:Array Bool):Prop:=
 ∀k ok,ops[k]?=Aa ok->listed.getD k Ad=Ab->∀e∈ok.after,Region.binds md e=Ab->listed.getD e.on Ad=Ab
theorem Closed.set{listed:Array Bool}(h:Closed md ops listed){j:Nat}(hj:j∈Region.ready md ops listed):Closed md ops (listed.setIfInBounds j Ab):=by
 intro k ok hk hl e he hb;by_cases hkj:j=k
 ·subst hkj;obtain⟨_,oj,hoj,hall⟩:=mem_ready.1 hj;rw[hk]at hoj;cases hoj;exact getD_set_true (hall e he hb)
 rw[getD_set_ne Ad hkj]at hl;exact getD_set_true (h k ok hk hl e he hb)
end
section
variable {P : Program} {y : Array Value → Nat → Option Bool} {Q : Exit → Act → World → Prop} {R : World → World → Prop}
end
end
def globT:List (Nat×List Value):=[
 (1,Lib.pow10Tab.map λz=>Value.int .u64 z)
  ]
section
open Go.RowKit
inductive D where
 |unk
 |val(v:Value)
 |agg(cs:List D)
 |tup(cs:List D)
 |row(cs:List D)(n:Nat)
 |ptr(cs:List D)
 |clo(f:Fn)(first cap:List D)
 |ifc(t:TypeId)(d:D)
 |own(k off:Nat)
 |osl(k off n m:Nat)(whole:Bool)
 |mref(k:Nat)
 |mfz(ks:List Value)(cs:List D)
 |fx(d:D)
 |osr(k off n m:Nat)(whole:Bool)(cs:List D)
 deriving Inhabited
inductive Kd where
 |plain
 |sh
 |map(ks:List Value)
 deriving Inhabited
structure Bk where
 cells:List D
 ty:TypeId
 sz:Nat
 arr:Bool
 fz:Bool
 kd:Kd
 deriving Inhabited
def Kd.isMap:Kd->Bool
 | .map _=>Ab
 |_=>Ad
def Kd.isSh:Kd->Bool
 | .sh=>Ab
 |_=>Ad
def Bk.nob(e:Bk):Bool:=e.arr&&!e.kd.isSh
def MapIs(w:World)(b:Nat)(ks vs:List Value):Prop:=∃(es:Array MapEntry)(clock:Nat),w.heap[b]?=Aa (.map es clock)/\es.toList.map (·.key)=ks/\es.toList.map (·.val)=vs/\(∀e∈es.toList,e.born<clock)/\(es.toList.map (·.born)).Nodup
theorem MapIs.of_heap{w w':World}{b:Nat}{ks vs:List Value}(h:MapIs w b ks vs)(hh:w'.heap[b]?=w.heap[b]?):MapIs w' b ks vs:=by
 obtain⟨es,c,h1,h2⟩:=h;exact⟨es,c,hh.trans h1,h2⟩
theorem MapIs.lt{w:World}{b:Nat}{ks vs:List Value}(h:MapIs w b ks vs):b<w.heap.size:=by
 obtain⟨es,c,h1,h2⟩:=h;grind
theorem MapIs.no_cells{w:World}{b:Nat}{ks vs:List Value}(h:MapIs w b ks vs){c:Array Value}{t:TypeId}{f:Nat×Nat}(hh:w.heap[b]?=Aa (.cells c t f)):False:=by
 obtain⟨es,k,h1,h2⟩:=h;rw[hh]at h1;cases h1
abbrev Be:=Nat->Option (Nat×Nat)
abbrev Im:=Nat->Nat->Prop
def noB:Be:=λ_=>Ac
section
variable {I I' : Im} {w w' : World}
mutual
def Rel(I:Im)(w:World):Be->D->Value->Prop
 |_, .unk,_=>True
 |_, .val u,v=>v=u
 |β, .agg cs,v=>∃vs:List Value,v= .agg vs.toArray/\RelL I w β cs vs
 |β, .tup cs,v=>∃vs:List Value,v= .tuple vs.toArray/\RelT I w β cs vs
 |_, .row cs n,v=>∃a cap,v= .slice a n cap/\n<=cap/\cap<=maxLen/\(a=Ac->cap=0)/\(cs=[]\/∃b o,a=Aa ⟨b,o,Ac⟩/\RelC I w cs b o)
 |_, .ptr cs,v=>∃b o,v= .pointer (Aa ⟨b,o,Ac⟩)/\RelC I w cs b o
 |β, .clo f x y,v=>∃vs us:List Value,v= .func f vs.toArray us.toArray/\RelT I w β x vs/\RelT I w β y us
 |β, .ifc t d,v=>∃u,v= .iface t u/\Rel I w β d u
 |β, .own k off,v=>∃b c,β k=Aa (b,c)/\v= .pointer (Aa ⟨b,off,Ac⟩)
 |β, .osl k off n m whole,v=>(n=0/\m=0/\v= .slice Ac 0 0)\/(n=0/\m=0/\whole=Ad/\∃a c,v= .slice a 0 c/\c<=maxLen/\(a=Ac->c=0))\/∃b c cap,β k=Aa (b,c)/\v= .slice (Aa ⟨b,off,Ac⟩) n cap/\n<=cap/\cap<=maxLen/\(whole=Ab->off=0/\cap=c)
 |β, .mref k,v=>∃b c,β k=Aa (b,c)/\v= .map (Aa b)
 |_, .mfz ks cs,v=>∃b vs,v= .map (Aa b)/\I b 0/\MapIs w b ks vs/\RelT I w noB cs vs
 |_, .fx d,v=>v.oneCell'=Ab/\Rel I w noB d v
 |β, .osr k off n m whole cs,v=>((n=0/\m=0/\v= .slice Ac 0 0)\/(n=0/\m=0/\whole=Ad/\∃a c,v= .slice a 0 c/\c<=maxLen/\(a=Ac->c=0))\/∃b c cap,β k=Aa (b,c)/\v= .slice (Aa ⟨b,off,Ac⟩) n cap/\n<=cap/\cap<=maxLen/\(whole=Ab->off=0/\cap=c))/\∃a cap,v= .slice a n cap/\n<=cap/\cap<=maxLen/\(a=Ac->cap=0)/\(cs=[]\/∃b o,a=Aa ⟨b,o,Ac⟩/\RelC I w cs b o)
def RelL(I:Im)(w:World):Be->List D->List Value->Prop
 |_,[],vs=>vs=[]
 |β,d::ds,vs=>∃v us,vs=v::us/\v.oneCell'=Ab/\Rel I w β d v/\RelL I w β ds us
def RelT(I:Im)(w:World):Be->List D->List Value->Prop
 |_,[],vs=>vs=[]
 |β,d::ds,vs=>∃v us,vs=v::us/\Rel I w β d v/\RelT I w β ds us
def RelC(I:Im)(w:World):List D->Nat->Nat->Prop
 |[],_,_=>True
 |d::ds,b,o=>(I b o/\∃v,w.cell? ⟨b,o,Ac⟩=Aa v/\v.oneCell'=Ab/\Rel I w noB d v)/\RelC I w ds b (o+1)
end
def Fix(I:Im)(w:World)(I':Im)(w':World):Prop:=∀b o,I b o->I' b o/\(∀v,w.cell? ⟨b,o,Ac⟩=Aa v->w'.cell? ⟨b,o,Ac⟩=Aa v)/\∀ks vs,MapIs w b ks vs->MapIs w' b ks vs
theorem Fix.refl(I:Im)(w:World):Fix I w I w:=λ_ _ h=>⟨h,λ_ h=>h,λ_ _ h=>h⟩
theorem Fix.trans{I'':Im}{w'':World}(h:Fix I w I' w')(k:Fix I' w' I'' w''):Fix I w I'' w'':=λb o hi=>⟨(k b o (h b o hi).1).1,λv hv=>(k b o (h b o hi).1).2.1 v ((h b o hi).2.1 v hv),λks vs hv=>(k b o (h b o hi).1).2.2 ks vs ((h b o hi).2.2 ks vs hv)⟩
def BeLe(β β':Be):Prop:=∀k x,β k=Aa x->β' k=Aa x
theorem BeLe.refl(β:Be):BeLe β β:=λ_ _ h=>h
theorem BeLe.no(β:Be):BeLe noB β:=λ_ _ h=>by cases h
mutual
theorem Rel.mono(hf:Fix I w I' w'):∀(β β':Be)(_:BeLe β β')(d:D)(v:Value),Rel I w β d v->Rel I' w' β' d v
 |_,_,_, .unk,_,_=>by simp only[Rel]
 |_,_,_, .val u,v,h=>by simp only[Rel]at h⊢;exact h
 |β,β',hb, .agg cs,v,h=>by
  simp only[Rel]at h⊢;obtain⟨vs,h1,h2⟩:=h;exact⟨vs,h1,RelL.mono hf β β' hb cs vs h2⟩
 |β,β',hb, .tup cs,v,h=>by
  simp only[Rel]at h⊢;obtain⟨vs,h1,h2⟩:=h;exact⟨vs,h1,RelT.mono hf β β' hb cs vs h2⟩
 |_,_,_, .row cs n,v,h=>by
  simp only[Rel]at h⊢;obtain⟨a,cap,h1,h2,h3,h4,h5⟩:=h;refine⟨a,cap,h1,h2,h3,h4,?_⟩;rcases h5 with h5|⟨b,o,h5,h6⟩
  ·exact .inl h5
  exact .inr ⟨b,o,h5,RelC.mono hf cs b o h6⟩
 |_,_,_, .ptr cs,v,h=>by
  simp only[Rel]at h⊢;obtain⟨b,o,h1,h2⟩:=h;exact⟨b,o,h1,RelC.mono hf cs b o h2⟩
 |β,β',hb, .clo f x y,v,h=>by
  simp only[Rel]at h⊢;obtain⟨vs,us,h1,h2,h3⟩:=h;exact⟨vs,us,h1,RelT.mono hf β β' hb x vs h2,RelT.mono hf β β' hb y us h3⟩
 |β,β',hb, .ifc t d,v,h=>by
  simp only[Rel]at h⊢;obtain⟨u,h1,h2⟩:=h;exact⟨u,h1,Rel.mono hf β β' hb d u h2⟩
 |β,β',hb, .own k off,v,h=>by
  simp only[Rel]at h⊢;obtain⟨b,c,h1,h2⟩:=h;exact⟨b,c,hb _ _ h1,h2⟩
 |β,β',hb, .osl k off n m wh,v,h=>by
  simp only[Rel]at h⊢;rcases h with h|h|⟨b,c,cap,h1,h2⟩
  ·exact .inl h
  ·exact .inr (.inl h)
  exact .inr (.inr ⟨b,c,cap,hb _ _ h1,h2⟩)
 |β,β',hb, .mref k,v,h=>by
  simp only[Rel]at h⊢;obtain⟨b,c,h1,h2⟩:=h;exact⟨b,c,hb _ _ h1,h2⟩
 |_,_,_, .mfz ks cs,v,h=>by
  simp only[Rel]at h⊢;obtain⟨b,vs,h1,h2,h3,h4⟩:=h;exact⟨b,vs,h1,(hf b 0 h2).1,(hf b 0 h2).2.2 ks vs h3,RelT.mono hf noB noB (BeLe.refl _) cs vs h4⟩
 |_,_,_, .fx d,v,h=>by
  simp only[Rel]at h⊢;exact⟨h.1,Rel.mono hf noB noB (BeLe.refl _) d v h.2⟩
 | β,β',hb, .osr k off n m wh cs,v,h=>by
  simp only[Rel]at h⊢;obtain⟨h,a,cap,h1,h2,h3,h4,h5⟩:=h;refine⟨?_,a,cap,h1,h2,h3,h4,?_⟩
  ·rcases h with h|h|⟨b,c,cap,h1,h2⟩
   ·exact .inl h
   ·exact .inr (.inl h)
   exact .inr (.inr ⟨b,c,cap,hb _ _ h1,h2⟩)
  rcases h5 with h5|⟨b,o,h5,h6⟩
  ·exact .inl h5
  exact .inr ⟨b,o,h5,RelC.mono hf cs b o h6⟩
theorem RelL.mono(hf:Fix I w I' w'):∀(β β':Be)(_:BeLe β β')(ds:List D)(vs:List Value),RelL I w β ds vs->RelL I' w' β' ds vs
 |_,_,_,[],vs,h=>by simp only[RelL]at h⊢;exact h
 |β,β',hb,d::ds,vs,h=>by
  simp only[RelL]at h⊢;obtain⟨v,us,h1,h2,h3,h4⟩:=h;exact⟨v,us,h1,h2,Rel.mono hf β β' hb d v h3,RelL.mono hf β β' hb ds us h4⟩
theorem RelT.mono(hf:Fix I w I' w'):∀(β β':Be)(_:BeLe β β')(ds:List D)(vs:List Value),RelT I w β ds vs->RelT I' w' β' ds vs
 |_,_,_,[],vs,h=>by simp only[RelT]at h⊢;exact h
 |β,β',hb,d::ds,vs,h=>by
  simp only[RelT]at h⊢;obtain⟨v,us,h1,h3,h4⟩:=h;exact⟨v,us,h1,Rel.mono hf β β' hb d v h3,RelT.mono hf β β' hb ds us h4⟩
theorem RelC.mono(hf:Fix I w I' w'):∀(ds:List D)(b o:Nat),RelC I w ds b o->RelC I' w' ds b o
 |[],_,_,_=>by simp only[RelC]
 |d::ds,b,o,h=>by
  simp only[RelC]at h⊢;obtain⟨⟨h1,v,h2,h3,h4⟩,h5⟩:=h;exact⟨⟨(hf b o h1).1,v,(hf b o h1).2.1 v h2,h3,Rel.mono hf noB noB (BeLe.refl _) d v h4⟩,RelC.mono hf ds b (o+1) h5⟩
end
theorem Rel.no{β:Be}{d:D}{v:Value}(h:Rel I w noB d v):Rel I w β d v:=Rel.mono (Fix.refl I w) noB β (BeLe.no β) d v h
theorem RelL.length{β:Be}:∀{ds:List D}{vs:List Value},RelL I w β ds vs->ds.length=vs.length
 |[],vs,h=>by simp only[RelL]at h;subst h;rfl
 |d::ds,vs,h=>by simp only[RelL]at h;obtain⟨v,us,rfl,_,_,h4⟩:=h;simp[RelL.length h4]
theorem RelT.length{β:Be}:∀{ds:List D}{vs:List Value},RelT I w β ds vs->ds.length=vs.length
 |[],vs,h=>by simp only[RelT]at h;subst h;rfl
 |d::ds,vs,h=>by simp only[RelT]at h;obtain⟨v,us,rfl,_,h4⟩:=h;simp[RelT.length h4]
theorem RelL.get{β:Be}:∀{ds:List D}{vs:List Value},RelL I w β ds vs->∀(i:Nat)(d:D),ds[i]?=Aa d->∃v,vs[i]?=Aa v/\v.oneCell'=Ab/\Rel I w β d v
 |[],vs,h,i,d,hd=>by simp at hd
 |c::ds,vs,h,i,d,hd=>by
  simp only[RelL]at h;obtain⟨v,us,rfl,h2,h3,h4⟩:=h;cases i with
  |zero=>simp at hd;subst hd;exact⟨v,by simp,h2,h3⟩
  |succ i=>simpa using RelL.get h4 i d (by simpa using hd)
theorem RelT.get{β:Be}:∀{ds:List D}{vs:List Value},RelT I w β ds vs->∀(i:Nat)(d:D),ds[i]?=Aa d->∃v,vs[i]?=Aa v/\Rel I w β d v
 |[],vs,h,i,d,hd=>by simp at hd
 |c::ds,vs,h,i,d,hd=>by
  simp only[RelT]at h;obtain⟨v,us,rfl,h3,h4⟩:=h;cases i with
  |zero=>simp at hd;subst hd;exact⟨v,by simp,h3⟩
  |succ i=>simpa using RelT.get h4 i d (by simpa using hd)
theorem RelL.of_get{β:Be}:∀{ds:List D}{vs:List Value},ds.length=vs.length->(∀(i:Nat) d v,ds[i]?=Aa d->vs[i]?=Aa v->v.oneCell'=Ab/\Rel I w β d v)->RelL I w β ds vs
 |[],vs,hl,h=>by simp only[RelL];exact AR (by simpa using hl.symm)
 |d::ds,[],hl,h=>by simp at hl
 |d::ds,v::vs,hl,h=>by
  simp only[RelL];exact⟨v,vs,rfl,(h 0 d v rfl rfl).1,(h 0 d v rfl rfl).2,RelL.of_get (by simpa using hl) (λi d v h1 h2=>h (i+1) d v (by simpa using h1) (by simpa using h2))⟩
theorem RelT.of_get{β:Be}:∀{ds:List D}{vs:List Value},ds.length=vs.length->(∀(i:Nat) d v,ds[i]?=Aa d->vs[i]?=Aa v->Rel I w β d v)->RelT I w β ds vs
 |[],vs,hl,h=>by simp only[RelT];exact AR (by simpa using hl.symm)
 |d::ds,[],hl,h=>by simp at hl
 |d::ds,v::vs,hl,h=>by
  simp only[RelT];exact⟨v,vs,rfl,h 0 d v rfl rfl,RelT.of_get (by simpa using hl) (λi d v h1 h2=>h (i+1) d v (by simpa using h1) (by simpa using h2))⟩
theorem RelC.get:∀{ds:List D}{b o:Nat},RelC I w ds b o->∀(i:Nat)(d:D),ds[i]?=Aa d->I b (o+i)/\∃v,w.cell? ⟨b,o+i,Ac⟩=Aa v/\v.oneCell'=Ab/\Rel I w noB d v
 |[],b,o,h,i,d,hd=>by simp at hd
 | c::ds,b,o,h,i,d,hd=>by
  simp only[RelC]at h;cases i with
  |zero=>simp at hd;subst hd;exact h.1
  |succ i=>
   have:=RelC.get h.2 i d (by simpa using hd)
   grind
theorem RelC.of_get:∀{ds:List D}{b o:Nat},(∀(i:Nat)(d:D),ds[i]?=Aa d->I b (o+i)/\∃v,w.cell? ⟨b,o+i,Ac⟩=Aa v/\v.oneCell'=Ab/\Rel I w noB d v)->RelC I w ds b o
 |[],b,o,h=>by simp only[RelC]
 |c::ds,b,o,h=>by
  simp only[RelC];refine⟨h 0 c rfl,RelC.of_get λi d hd=>?_⟩
  have:=h (i+1) d (by simpa using hd)
  grind
theorem RelC.drop{ds:List D}{b o:Nat}(h:RelC I w ds b o)(j:Nat):RelC I w (ds.drop j) b (o+j):=
 RelC.of_get λi d hd=>by
  rw[A0]at hd
  have:=h.get (j+i) d hd
  rw[show o+(j+i)=o+j+i by omega]at this;exact this
theorem RelC.take{ds:List D}{b o:Nat}(h:RelC I w ds b o)(j:Nat):RelC I w (ds.take j) b o:=
 RelC.of_get λi d hd=>by
  rw[Ar]at hd;split at hd
  ·exact h.get i d hd
  cases hd
theorem RelC.list{ds:List D}{b o:Nat}(h:RelC I w ds b o):∃vs:List Value,w.rangeAt b o vs/\RelL I w noB ds vs/\vs.length=ds.length:=by
 induction ds generalizing o with
 |nil=>exact⟨[],λj v hv=>by simp at hv,by simp only[RelL],rfl⟩
 | cons d ds ih=>
  simp only[RelC]at h;obtain⟨⟨h1,v,h2,h3,h4⟩,h5⟩:=h;obtain⟨vs,k1,k2,k3⟩:=ih h5;refine⟨v::vs,λj u hu=>?_,by simp only[RelL];exact⟨v,vs,rfl,h3,h4,k2⟩,by simp[k3]⟩;cases j with
  |zero=>simp at hu;subst hu;simpa using h2
  |succ j=>
   have:=k1 j u (by simpa using hu)
   grind
theorem RelL.ones{β:Be}:∀{ds:List D}{vs:List Value},RelL I w β ds vs->∀v∈vs,v.oneCell'=Ab
 |[],vs,h=>by simp only[RelL]at h;subst h;simp
 |d::ds,vs,h=>by
  simp only[RelL]at h;obtain⟨v,us,rfl,h2,_,h4⟩:=h;intro u hu;rcases List.mem_cons.1 hu with rfl|hu
  ·exact h2
  exact RelL.ones h4 u hu
end
structure Par where
 imp:FuncId->Bool
 meth:TypeId->String->Option FuncId
 keep:Nat->Bool
 hv:Op->Bool:=λ_=>Ad
 sh:TypeId->Bool:=λ_=>Ad
inductive Eff where
 |bad
 |lit(p:Prop)(d:D)
 |get(p:Prop)(d:D)
 |new(p:Prop)(b:Bk)(d:D)(fz:List Nat)
 |call(f:FuncId)(args:List D)(fz:List Nat)
 |put(p:Prop)(k:Nat)(b:Bk)(fz:List Nat)
 |app(p:Prop)(k:Nat)(b:Bk)(d:D)
 |act(f:FuncId)(args:List D)
def cellsOf:D->List D
 | .agg cs=>cs
 |d=>[d]
def zFm:D->Bool
 | .val v=>v.oneCell'
 | .unk| .agg _| .tup _=>Ad
 |_=>Ab
def zGg:D->Bool
 | .agg _=>Ab
 |d=>zFm d
mutual
def refs(k:Nat):D->Bool
 | .own j _=>j==k
 | .osl j _ _ _ _=>j==k
 | .osr j _ _ _ _ _=>j==k
 | .mref j=>j==k
 | .agg cs=>zBd k cs
 | .tup cs=>zBd k cs
 | .clo _ x y=>zBd k x||zBd k y
 | .ifc _ d=>refs k d
 |_=>Ad
def zBd(k:Nat):List D->Bool
 |[]=>Ad
 |d::ds=>refs k d||zBd k ds
end
def zA6(k:Nat)(d:D):D:=if refs k d then(match d with
 | .osr _ _ n _ _ cs=> .row cs n
 |_=> .unk)else d
def unB:D->D
 | .osr k off n m wh _=> .osl k off n m wh
 |d=>d
def mapF(f:D->Option (D×List Nat)):List D->Option (List D×List Nat)
 |[]=>Aa ([],[])
 | d::ds=>match f d with
  |none=>Ac
  |some (x,ks)=>match mapF f ds with
   |none=>Ac
   |some (xs,ls)=>Aa (x::xs,ks++ls)
def frz(kn:Bool)(st:List Bk):Nat->D->Option (D×List Nat)
 |0,_=>Aa (.unk,[])
 | n+1,d=>match d with
  | .val v=>match v with
   | .slice Ac 0 0=>if kn then Aa (.val (.slice Ac 0 0),[])else Aa (.row [] 0,[])
   |v=>Aa (.val v,[])
  | .unk=>Aa (.unk,[])
  | .row cs m=>Aa (.row cs m,[])
  | .ptr cs=>Aa (.ptr cs,[])
  | .mfz ks cs=>Aa (.mfz ks cs,[])
  | .fx d=>Aa (.fx d,[])
  | .osr _ _ l _ _ cs=>Aa (.row cs l,[])
  | .agg cs=>(mapF (frz kn st n) cs).map λx=>(.agg x.1,x.2)
  | .tup cs=>(mapF (frz kn st n) cs).map λx=>(.tup x.1,x.2)
  | .clo f x y=>match mapF (frz kn st n) x with
   |none=>Ac
   |some (a,ks)=>(mapF (frz kn st n) y).map λz=>(.clo f a z.1,ks++z.2)
  | .ifc t d=>(frz kn st n d).map λx=>(.ifc t x.1,x.2)
  | .own k off=>match st[k]? with
   |none=>Ac
   |some e=>if e.kd.isMap then Ac else if e.nob then Aa (.ptr (e.cells.drop off),[k])else(mapF (frz kn st n) e.cells).map λx=>(.ptr (x.1.drop off),k::x.2)
  | .osl k off l m _=>match st[k]? with
   |none=>Ac
   |some e=>if e.kd.isMap then Ac else if e.nob then Aa (.row ((e.cells.drop off).take m) l,[k])else(mapF (frz kn st n) e.cells).map λx=>(.row ((x.1.drop off).take m) l,k::x.2)
  | .mref k=>match st[k]? with
   |none=>Ac
   |some e=>match e.kd with
    | .map ks=>if e.nob then Aa (.mfz ks e.cells,[k])else(mapF (frz kn st n) e.cells).map λx=>(.mfz ks x.1,k::x.2)
    |_=>Ac
def zAu:Nat:=9
def zAo(st:List Bk)(ks:List Nat):List Bk:=ks.foldl (λs k=>s.modify k λe=>{e with fz:=Ab}) st
mutual
def zBf(n:Nat):D->D
 | .osl k off l m wh=> .osl (n+k) off l m wh
 | .osr k off l m wh cs=> .osr (n+k) off l m wh cs
 | .own k off=> .own (n+k) off
 | .mref k=> .mref (n+k)
 | .agg cs=> .agg (zFh n cs)
 | .tup cs=> .tup (zFh n cs)
 | .clo f x y=> .clo f (zFh n x) (zFh n y)
 | .ifc t d=> .ifc t (zBf n d)
 |d=>d
def zFh(n:Nat):List D->List D
 |[]=>[]
 |d::ds=>zBf n d::zFh n ds
end
def setAt(cs:List D)(off:Nat):List D->List D
 |[]=>cs
 |d::ds=>setAt (cs.set off d) (off+1) ds
section
variable (P : Program)
def zDw(t:TypeId):Bool:=match P.underlying t with
 |some (.struct _)|some (.array _ _)=>Ab
 |_=>Ad
def tySz(t:TypeId):Option Nat:=match P.underlying t with
 |none=>Ac
 |some _=>(P.info? t).map (·.size)
def ldP(t:TypeId)(cs:List D)(mk:Prop->D->Eff):Eff:=match tySz P t with
 |none=> .bad
 |some s=>if zDw P t then mk (s<=cs.length) (.agg (cs.take s))else mk (0<cs.length) (cs.headD .unk)
def aInt(op:BinOp)(k:IntKind)(a b:Int):Eff:=match op with
 | .add=> .lit True (.val (.int k (k.wrap (a+b))))
 | .sub=> .lit True (.val (.int k (k.wrap (a-b))))
 | .mul=> .lit True (.val (.int k (k.wrap (a*b))))
 | .quo=> .lit (b≠0) (.val (.int k (k.wrap (a.tdiv b))))
 | .rem=> .lit (b≠0) (.val (.int k (a.tmod b)))
 | .and=> .lit True (.val (.int k (k.wrap (AA k.bits a&&&AA k.bits b).toNat)))
 | .or=> .lit True (.val (.int k (k.wrap (AA k.bits a|||AA k.bits b).toNat)))
 | .xor=> .lit True (.val (.int k (k.wrap (AA k.bits a^^^AA k.bits b).toNat)))
 | .andNot=> .lit True (.val (.int k (k.wrap (AA k.bits a&&&~~~AA k.bits b).toNat)))
 | .eql=> .lit True (.val (.bool (a==b)))
 | .neq=> .lit True (.val (.bool (a !=b)))
 | .lss=> .lit True (.val (.bool (a<b)))
 | .leq=> .lit True (.val (.bool (a<=b)))
 | .gtr=> .lit True (.val (.bool (a>b)))
 | .geq=> .lit True (.val (.bool (a>=b)))
 |_=> .bad
def aStr(op:BinOp)(x y:ByteArray):Eff:=match op with
 | .add=> .lit (((x.size+y.size:Nat):Int)<=9223372036854775807) (.val (.string (x++y)))
 | .eql=> .lit True (.val (.bool (x.toList==y.toList)))
 | .neq=> .lit True (.val (.bool (!(x.toList==y.toList))))
 | .lss=> .lit True (.val (.bool (Op.bytesLess x.toList y.toList)))
 | .leq=> .lit True (.val (.bool (Op.bytesLess x.toList y.toList||x.toList==y.toList)))
 | .gtr=> .lit True (.val (.bool (!(Op.bytesLess x.toList y.toList||x.toList==y.toList))))
 | .geq=> .lit True (.val (.bool (!Op.bytesLess x.toList y.toList)))
 |_=> .bad
def aNil(op:BinOp)(t:TypeId)(n:Nat):Eff:=match op,P.underlying t with
 | .eql,Aa (.slice _)=> .lit (0<n) (.val (.bool Ad))
 | .neq,Aa (.slice _)=> .lit (0<n) (.val (.bool Ab))
 |_,_=> .bad
inductive NK where
 |ptr
 |map
 |func
 |slice
def nkOf:TypeDesc->Option NK
 | .pointer _=>Aa .ptr
 | .map _ _=>Aa .map
 | .func _ _ _=>Aa .func
 | .slice _=>Aa .slice
 |_=>Ac
def zKa(op:BinOp)(t:TypeId)(nk:NK)(b:Bool):Eff:=match(P.underlying t).bind nkOf,nk with
 | some .ptr, .ptr|some .map, .map|some .func, .func|some .slice, .slice=>match op with
   | .eql=> .lit True (.val (.bool b))
   | .neq=> .lit True (.val (.bool (!b)))
   |_=> .bad
 |_,_=> .bad
def partD(t:TypeId)(xs:List D)(o:Nat):Option D:=match tySz P t with
 |none=>Ac
 |some s=>if zDw P t then(if o+s<=xs.length then Aa (.agg ((xs.drop o).take s))else Ac)else if o<xs.length then Aa (xs.getD o .unk)else Ac
def eqF(rec:TypeId->D->D->Option Bool)(xs ys:List D):List Field->Option Bool
 |[]=>Aa Ab
 | f::fs=>if f.name== "_" then Ac else match partD P f.type xs f.offset,partD P f.type ys f.offset with
  |some a,Aa b=>match rec f.type a b,eqF rec xs ys fs with
   |some r,Aa q=>Aa (r&&q)
   |_,_=>Ac
  |_,_=>Ac
def eqD:Nat->TypeId->D->D->Option Bool
 |0,_,_,_=>Ac
 |n+1,t,x,y=>match P.underlying t,x,y with
  |some .bool, .val (.bool a), .val (.bool b)=>Aa (a==b)
  |some (.int _), .val (.int k a), .val (.int k' b)=>if k=k' then Aa (a==b)else Ac
  |some .string, .val (.string a), .val (.string b)=>Aa (a.toList==b.toList)
  |some (.struct fs), .agg xs, .agg ys=>if P.stoodInHeld t then Ac else eqF P (eqD n) xs ys fs.toList
  |_,_,_=>Ac
def aEqS(op:BinOp)(t:TypeId)(x y:D):Eff:=if P.eqGuardType P.depth t then .bad else match op,eqD P 6 t x y with
 | .eql,Aa b=> .lit True (.val (.bool b))
 | .neq,Aa b=> .lit True (.val (.bool (!b)))
 |_,_=> .bad
def aBin(op:BinOp)(t:TypeId)(x y:D):Eff:=match x,y with
 | .val (.int k a), .val (.int k' b)=>match op with
  | .shl=> .lit (0<=b) (.val (.int k (k.wrap (a*2^(min b.toNat k.bits)))))
  | .shr=> .lit (0<=b) (.val (.int k (a.fdiv (2^(min b.toNat k.bits)))))
  |op=>if k=k' then aInt op k a b else .bad
 | .val (.string a), .val (.string b)=>aStr op a b
 | .val (.bool a), .val (.bool b)=>match op,P.underlying t with
  | .eql,Aa .bool=> .lit True (.val (.bool (a==b)))
  | .neq,Aa .bool=> .lit True (.val (.bool (!(a==b))))
  |_,_=> .bad
 | .row _ n, .val (.slice Ac 0 0)=>aNil P op t n
 | .osl _ _ n _ _, .val (.slice Ac 0 0)=>aNil P op t n
 | .val (.slice Ac 0 0), .val (.slice Ac 0 0)=>zKa P op t .slice Ab
 | .own _ _, .val (.pointer Ac)=>zKa P op t .ptr Ad
 | .ptr _, .val (.pointer Ac)=>zKa P op t .ptr Ad
 | .val (.pointer Ac), .val (.pointer Ac)=>zKa P op t .ptr Ab
 | .mref _, .val (.map Ac)=>zKa P op t .map Ad
 | .mfz _ _, .val (.map Ac)=>zKa P op t .map Ad
 | .val (.map Ac), .val (.map Ac)=>zKa P op t .map Ab
 | .clo _ _ _, .val .nilFunc=>zKa P op t .func Ad
 | .val .nilFunc, .val .nilFunc=>zKa P op t .func Ab
 | .agg xs, .agg ys=>aEqS P op t (.agg xs) (.agg ys)
 |_,_=> .bad
def aUn(op:UnOp)(x:D):Eff:=match op,x with
 | .not, .val (.bool b)=> .lit True (.val (.bool (!b)))
 | .neg, .val (.int k n)=> .lit True (.val (.int k (k.wrap (0-n))))
 |_,_=> .bad
def asRow:D->Option (List D×Nat)
 | .row cs n=>Aa (cs,n)
 | .val (.slice Ac 0 0)=>Aa ([],0)
 |_=>Ac
def zH2(x:Option D)(y:Nat):Option (Prop×Nat):=match x with
 |none=>Aa (True,y)
 |some (.val (.int _ i))=>Aa (0<=i,i.toNat)
 |_=>Ac
def aSlice(t:TypeId)(x:D)(lo hi mx:Option D):Eff:=match zH2 lo 0 with
 |none=> .bad
 | some (pl,l)=>match P.underlying t,x with
  |some .string, .val (.string s)=>match zH2 hi s.size,mx with
   |some (ph,h),Ac=> .lit (pl/\ph/\l<=h/\h<=s.size) (.val (.string (s.extract l h)))
   |_,_=> .bad
  | some (.slice e), .osl k off n m wh=>match zH2 hi n,tySz P e with
   |some (ph,h),Aa sz=>match zH2 mx h with
    |some (pm,c)=> .lit (pl/\ph/\pm/\0<sz/\l<=h/\h<=n/\c=h) (.osl k (off+l*sz) (h-l) ((h-l)*sz) (wh&&mx.isNone&&lo.isNone))
    |none=> .bad
   |_,_=> .bad
  | some (.slice e),x=>match asRow x,tySz P e with
   | some (cs,n),Aa sz=>match zH2 hi n with
    |some (ph,h)=>match zH2 mx h with
     |some (pm,c)=> .lit (pl/\ph/\pm/\0<sz/\l<=h/\h<=n/\c=h) (.row ((cs.drop (l*sz)).take ((h-l)*sz)) (h-l))
     |none=> .bad
    |none=> .bad
   |_,_=> .bad
  |some (.array n e), .own k off=>match tySz P e,zH2 hi n,lo,mx with
   |some sz,Aa (ph,h),Ac,Ac=> .lit (pl/\ph/\0<sz/\h<=n/\n<=maxLen) (.osl k off h (h*sz) Ad)
   |_,_,_,_=> .bad
  |_,_=> .bad
def zJo(t:TypeId)(x i:D):Eff:=match i with
 | .val (.int _ i)=>match P.underlying t with
  |some (.slice e)=>match x,tySz P e with
   | .osl k off n m wh,Aa sz=> .lit (0<=i/\i<n) (.own k (off+i.toNat*sz))
   | .row cs n,Aa sz=> .lit (0<=i/\i<n/\cs≠[]) (.ptr (cs.drop (i.toNat*sz)))
   |_,_=> .bad
  |some (.array n e)=>match x,tySz P e with
   | .own k off,Aa sz=> .lit (0<=i/\i<n) (.own k (off+i.toNat*sz))
   | .ptr cs,Aa sz=> .lit (0<=i/\i<n) (.ptr (cs.drop (i.toNat*sz)))
   |_,_=> .bad
  |_=> .bad
 |_=> .bad
def aIndex(t:TypeId)(x i:D):Eff:=match i with
 | .val (.int _ i)=>match P.underlying t,x with
  |some (.array n e), .agg cs=>match tySz P e with
   |some sz=>if zDw P e then .lit (0<=i/\i<n/\i.toNat*sz+sz<=cs.length) (.agg ((cs.drop (i.toNat*sz)).take sz))else .lit (0<=i/\i<n/\i.toNat*sz<cs.length) (cs.getD (i.toNat*sz) .unk)
   |none=> .bad
  |some .string, .val (.string s)=> .lit (0<=i/\i<s.size) (.val (.int .u8 (s.data.getD i.toNat 0).toNat))
  |_,_=> .bad
 |_=> .bad
def zPq(t:TypeId)(f:Nat):Option (Nat×TypeId):=match P.underlying t with
 |some (.struct fs)=>(fs[f]?).map λx=>(x.offset,x.type)
 |_=>Ac
def aField(t:TypeId)(x:D)(f:Nat):Eff:=match x,zPq P t f with
 | .agg cs,Aa (o,ft)=>match tySz P ft with
  |some sz=>if zDw P ft then .lit (o+sz<=cs.length) (.agg ((cs.drop o).take sz))else .lit (o<cs.length) (cs.getD o .unk)
  |none=> .bad
 |_,_=> .bad
def zJp(t:TypeId)(x:D)(f:Nat):Eff:=match zPq P t f with
 |some (o,ft)=>match tySz P ft,x with
  |some (s+1), .own k off=> .lit True (.own k (off+o))
  |some (s+1), .ptr cs=> .lit True (.ptr (cs.drop o))
  |_,_=> .bad
 |none=> .bad
def zH1(place:Nat->Option (Nat×Nat)):List (Nat×D)->List D->Option (Prop×List D)
 |[],cs=>Aa (True,cs)
 | (i,d)::r,cs=>match place i with
  |none=>Ac
  | some (off,sz)=>if zGg d then match zH1 place r (setAt cs off (cellsOf d))with
    |none=>Ac
    |some (p,x)=>Aa ((cellsOf d).length=sz/\off+sz<=cs.length/\p,x)
   else Ac
def zH3(t:TypeId):Option (List D):=match P.info? t with
 |none=>Ac
 |some i=>match i.zero with
  |none=>Ac
  |some z=>if z.cells.toList.all (·.oneCell')then Aa (z.cells.toList.map .val)else Ac
def aBuild(t:TypeId)(parts:List (Nat×D)):Eff:=match zH3 P t,P.underlying t with
 |some z,Aa (.struct fs)=>match zH1 (λi=>(fs[i]?).bind λf=>(tySz P f.type).map λs=>(f.offset,s)) parts z with
  |some (p,cs)=> .lit (p/\fs.all (λf=>(tySz P f.type).isSome)=Ab) (.agg cs)
  |none=> .bad
 | some z,Aa (.array _ e)=>match tySz P e with
  |some sz=>match zH1 (λi=>Aa (i*sz,sz)) parts z with
   |some (p,cs)=> .lit p (.agg cs)
   |none=> .bad
  |none=> .bad
 |_,_=> .bad
def repL(n:Nat)(z:List D):List D:=(A1 n z).flatten
def zF9(st:List Bk):List (Nat×D)->Option (List (Nat×D)×List Nat)
 |[]=>Aa ([],[])
 | (i,d)::r=>match frz Ad st zAu d with
  |none=>Ac
  |some (x,ks)=>match zF9 st r with
   |none=>Ac
   |some (xs,ls)=>Aa ((i,x)::xs,ks++ls)
def zCs(t:TypeId)(len:Nat)(parts:List (Nat×D))(st:List Bk):Eff:=match P.underlying t with
 | some (.slice e)=>match tySz P e,zH3 P e,zF9 st parts with
  |some sz,Aa z,Aa (ps,ks)=>match zH1 (λi=>Aa (i*sz,sz)) ps (repL len z)with
   |some (p,cs)=> .new (p/\0<sz/\z.length=sz/\len*sz<=16777216/\len<=9223372036854775807) ⟨cs,e,sz,Ab,Ad, .plain⟩ (.osl st.length 0 len (len*sz) Ab) ks
   |none=> .bad
  |_,_,_=> .bad
 |_=> .bad
def zC1(t:TypeId)(len:Nat)(parts:List (Nat×D))(st:List Bk):Eff:=match P.underlying t with
 | some (.slice e)=>match tySz P e,zH3 P e with
  |some sz,Aa z=>match zH1 (λi=>Aa (i*sz,sz)) parts (repL len z)with
   |some (p,cs)=> .new (p/\0<sz/\z.length=sz/\len*sz<=16777216/\len<=9223372036854775807) ⟨cs,e,sz,Ab,Ad, .sh⟩ (.osl st.length 0 len (len*sz) Ab) []
   |none=> .bad
  |_,_=> .bad
 |_=> .bad
def zGj(T:Par)(t:TypeId):Bool:=match P.underlying t with
 |some (.slice e)=>T.sh e
 |some (.map _ e)=>T.sh e
 |_=>Ad
def kdOf(sh:Bool):Kd:=if sh then .sh else .plain
def zEg(sh:Bool)(t:TypeId)(l c:D)(st:List Bk):Eff:=match P.underlying t,l,c with
 |some (.slice e), .val (.int _ L), .val (.int _ C)=>match P.info? e,zH3 P e with
  |some i,Aa z=> .new (0<=L/\L<=C/\(i.bytes:Int)*C<=281474976710656/\C<=281474976710656/\0<i.size/\z.length=i.size) ⟨repL L.toNat z,e,i.size,Ab,Ad,kdOf sh⟩ (.osl st.length 0 L.toNat (L.toNat*i.size) Ab) []
  |_,_=> .bad
 |_,_,_=> .bad
def zAe(l:List UInt8):List D:=l.map λb=> .val (.int .u8 b.toNat)
def zJ2:D->D
 | .val v=> .val v
 |_=> .unk
def zEn(sh:Bool)(st:List Bk)(x:D):Option (List D×Nat):=match x with
 | .osl k off n m _=>match st[k]? with
  |some e=>if !e.kd.isMap then(if e.nob||sh then Aa ((e.cells.drop off).take m,n)else Aa (((e.cells.drop off).take m).map zJ2,n))else Ac
  |none=>Ac
 |x=>asRow x
def aApp(sh:Bool)(e e':TypeId)(i:TypeInfo)(z xs:List D)(m:Nat)(s:D)(st:List Bk):Eff:=match s with
   | .val (.slice Ac 0 0)=> .new (xs.length=m*i.size/\0<i.size/\0<i.bytes/\e=e'/\m*i.bytes<=140737488355328/\z.length=i.size) ⟨xs,e,i.size,Ab,Ad,kdOf sh⟩ (.osl st.length 0 m (m*i.size) Ab) []
   | .osl k 0 n mm Ab=>match st[k]? with
    | some b=> .app (b.arr=Ab/\b.cells.length=n*i.size/\mm=n*i.size/\b.ty=e/\b.sz=i.size/\xs.length=m*i.size/\0<i.size/\0<i.bytes/\e=e'/\(n+m)*i.bytes<=140737488355328/\z.length=i.size/\b.kd.isMap=Ad/\(sh=Ad\/b.kd.isSh=Ab))
      k {b with cells:=if b.nob then b.cells++xs else(b.cells++xs).map (zA6 k)} (.osl k 0 (n+m) ((n+m)*i.size) Ab)
    |none=> .bad
   |_=> .bad
def zWx(i:TypeInfo):Bool:=i.size==1&&i.bytes==1&&match i.zero with
 |some (.int .u8 0)=>Ab
 |_=>Ad
def zFv(sh:Bool)(t u:TypeId)(s x:D)(st:List Bk):Eff:=match P.underlying t,P.underlying u with
 |some (.slice e),Aa (.slice e')=>match P.info? e,zH3 P e,zEn sh st x with
  |some i,Aa z,Aa (xs,m)=>aApp sh e e' i z xs m s st
  |_,_,_=> .bad
 |some (.slice e),Aa .string=>match P.info? e,zH3 P e,x with
  |some i,Aa z, .val (.string b)=>if zWx i then aApp Ad e e i z (zAe b.data.toList) b.data.toList.length s st else .bad
  |_,_,_=> .bad
 |_,_=> .bad
def aCopy(t u:TypeId)(s x:D)(st:List Bk):Eff:=match P.underlying t,P.underlying u,s with
 |some (.slice e),Aa (.slice e'), .osl k off n m _=>match st[k]?,tySz P e,zEn Ad st x with
  |some b,Aa sz,Aa (xs,l)=> .put (b.fz=Ad/\b.kd.isMap=Ad/\0<sz/\e=e'/\xs.length=l*sz/\off+n*sz<=b.cells.length) k {b with cells:=setAt b.cells off (xs.take (min l n*sz))} []
  |_,_,_=> .bad
 |_,_,_=> .bad
def zXu(t:TypeId)(x:D)(st:List Bk):Eff:=match P.underlying t,x with
 |some (.slice e), .osl k off n m _=>match st[k]?,zH3 P e with
  |some b,Aa z=> .put (b.fz=Ad/\b.kd.isMap=Ad/\0<z.length/\off+n*z.length<=b.cells.length) k {b with cells:=setAt b.cells off (repL n z)} []
  |_,_=> .bad
 |_,_=> .bad
def vEq:Value->Value->Bool
 | .int _ a, .int _ b=>a==b
 | .string a, .string b=>a.data.toList==b.data.toList
 | .bool a, .bool b=>a==b
 |_,_=>Ad
def zT:TypeDesc->Value->Bool
 | .int k, .int k' _=>k==k'
 | .string, .string _=>Ab
 | .bool, .bool _=>Ab
 |_,_=>Ad
def zDj(ks:List Value)(k:Value):Option Nat:=ks.findIdx? (vEq k)
def zeroV(t:TypeId):Option D:=match P.info? t with
 |none=>Ac
 |some i=>match i.zero with
  |none=>Ac
  |some (.agg cs)=>if cs.toList.all (·.oneCell')then Aa (.agg (cs.toList.map .val))else Ac
  |some v=>Aa (.val v)
def ctD(ok:Bool)(d:D)(found:Bool):D:=if ok then .tup [d, .val (.bool found)]else d
def zEz(ok:Bool)(z:D)(ks:List Value)(cs:List D)(key:Value):D:=match zDj ks key with
 |some i=>ctD ok (cs.getD i .unk) Ab
 |none=>ctD ok z Ad
def zFu(ok:Bool)(kt e:TypeId)(key:Value)(ks:List Value)(cs:List D):Eff:=match P.underlying kt,zeroV P e with
 |some d,Aa z=> .get (zT d key=Ab/\ks.all (zT d)=Ab) (zEz ok z ks cs key)
 |_,_=> .bad
def zJn(t:TypeId)(x i:D)(ok:Bool)(st:List Bk):Eff:=match P.underlying t,i with
 | some (.map kt e), .val key=>match x with
  | .val (.map Ac)=>zFu P ok kt e key [] []
  | .mfz ks cs=>zFu P ok kt e key ks cs
  | .mref k=>match st[k]? with
   |some b=>match b.kd with
    | .map ks=>zFu P ok kt e key ks b.cells
    |_=> .bad
   |none=> .bad
  |_=> .bad
 |_,_=> .bad
def mput(b:Bk)(ks:List Value)(key:Value)(d:D):Bk:=match zDj ks key with
 |some i=>{b with cells:=b.cells.set i d}
 |none=>{b with cells:=b.cells++[d],kd:= .map (ks++[key])}
def zCr(t:TypeId)(x i v:D)(st:List Bk):Eff:=match P.underlying t,x,i with
 | some (.map kt e), .mref k, .val key=>match st[k]?,P.underlying kt with
  | some b,Aa d=>match b.kd with
   | .map ks=>if b.nob then match frz Ad st zAu v with
     |some (y,fs)=> .put (b.fz=Ad/\zT d key=Ab/\ks.all (zT d)=Ab/\k∉fs) k (mput b ks key y) fs
     |none=> .bad
    else .put (b.fz=Ad/\zT d key=Ab/\ks.all (zT d)=Ab) k (mput b ks key v) []
   |_=> .bad
  |_,_=> .bad
 |_,_,_=> .bad
def zE5:List D->Option (List UInt8)
 |[]=>Aa []
 | .val (.int .u8 n)::ds=>(zE5 ds).map (AB n.toNat::·)
 |_=>Ac
def zYw(t:TypeId)(x:D)(st:List Bk):Eff:=match P.underlying t,x with
 |some (.map _ _), .val (.map Ac)=> .get True (.val (.int .i64 0))
 |some (.map _ _), .mfz ks _=> .get True (.val (.int .i64 ks.length))
 | some (.map _ _), .mref k=>match st[k]? with
  |some b=>match b.kd with
   | .map ks=> .get True (.val (.int .i64 ks.length))
   |_=> .bad
  |none=> .bad
 |_,_=> .bad
def byteG:D->UInt8
 | .val (.int .u8 n)=>AB n.toNat
 |_=>0
def zNe(l:List D):List UInt8:=l.map byteG
def zSk(src dst:TypeId)(x:D)(st:List Bk):Eff:=match P.underlying src,P.underlying dst,zEn Ad st x with
 |some (.slice e),Aa .string,Aa (xs,n)=> .get (zE5 xs=Aa (zNe xs)/\xs.length=n/\P.underlying e=Aa (.int .u8)) (.val (.string ⟨(zNe xs).toArray⟩))
 |_,_,_=> .bad
def aLen(t:TypeId)(x:D):Eff:=match P.underlying t,x with
 |some (.slice _), .row _ n=> .lit True (.val (.int .i64 n))
 |some (.slice _), .osl _ _ n _ _=> .lit True (.val (.int .i64 n))
 |some (.slice _), .val (.slice Ac 0 0)=> .lit True (.val (.int .i64 0))
 |some .string, .val (.string s)=> .lit True (.val (.int .i64 s.size))
 |some (.array n _),_=> .lit True (.val (.int .i64 n))
 |some (.pointer arr),_=>match P.underlying arr with
  |some (.array n _)=> .lit True (.val (.int .i64 n))
  |_=> .bad
 |_,_=> .bad
def zJq(imp:FuncId->Bool)(f:FuncId)(args:List D)(st:List Bk):Eff:=
 match P.funcs[f]? with
 |none=> .bad
 | some fn=>if fn.name== "runtime.NumGoroutine" ||fn.body.isNone then .bad else
  if imp f then .act f args else match mapF (frz Ab st zAu) args with
   |none=> .bad
   |some (xs,ks)=> .call f xs ks
def aConv(src dst:TypeId)(x:D):Eff:=match P.underlying src,P.underlying dst,x with
 |some (.int _),Aa (.int k), .val (.int _ n)=> .lit True (.val (.int k (k.wrap n)))
 |some .string,Aa .string, .val (.string s)=> .lit True (.val (.string s))
 |_,_,_=> .bad
def isPtr:TypeDesc->Bool
 | .pointer _=>Ab
 |_=>Ad
def zLj(t:TypeId)(name:String):Option FuncId:=match P.info? t,P.underlying t with
 | some i,Aa u=>match i.methods.find? (·.name==name)with
  | some m=>if m.path.isEmpty then match m.func with
    |some (f,p)=>if p==isPtr u then Aa f else Ac
    |none=>Ac
   else Ac
  |none=>Ac
 |_,_=>Ac
def aeff(T:Par)(o:Op)(ty:TypeId)(ρ:Operand->D)(st:List Bk):Eff:=match o with
 | .move x=> .lit True (ρ x)
 | .assign x=> .lit True (ρ x)
 | .pick c a b=>match ρ c with
  | .val (.bool t)=> .lit True (if t then ρ a else ρ b)
  |_=> .bad
 | .alloc e=>match zH3 P e with
  |some z=> .new True ⟨z,e,0,Ad,Ad, .plain⟩ (.own st.length 0) []
  |none=> .bad
 | .box e x=>if zGg (ρ x)then .new True ⟨cellsOf (ρ x),e,0,Ad,Ad, .plain⟩ (.own st.length 0) []else .bad
 | .build t parts=>aBuild P t (parts.toList.map λp=>(p.1,ρ p.2))
 | .buildSlice t len parts=>if zGj P T t then zC1 P t len (parts.toList.map λp=>(p.1,ρ p.2)) st else zCs P t len (parts.toList.map λp=>(p.1,ρ p.2)) st
 | .makeMap t r=>match P.underlying t,r.map ρ with
  |some (.map _ _),Ac|some (.map _ _),Aa (.val (.int _ _))=> .new True ⟨[],t,0,!zGj P T t,Ad, .map []⟩ (.mref st.length) []
  |_,_=> .bad
 | .lookup t x i ok=>zJn P t (ρ x) (ρ i) ok st
 | .mapUpdate t m k x=>zCr P t (ρ m) (ρ k) (ρ x) st
 | .insert t m k x=>zCr P t (ρ m) (ρ k) (ρ x) st
 | .load t a=>match ρ a with
  | .ptr cs=>ldP P t cs .get
  | .own k off=>match st[k]? with
   |some e=>if e.kd.isMap then .bad else ldP P t (e.cells.drop off) .get
   |none=> .bad
  |_=> .bad
 | .store t a x=>match ρ a,tySz P t with
  | .own k off,Aa sz=>match st[k]? with
   |none=> .bad
   | some e=>if e.kd.isMap then .bad else if e.nob then match frz Ad st zAu (ρ x)with
     |some (d,ks)=> .put (e.fz=Ad/\zGg d=Ab/\(cellsOf d).length=sz/\off+sz<=e.cells.length/\k∉ks) k {e with cells:=setAt e.cells off (cellsOf d)} ks
     |none=> .bad
    else .put (e.fz=Ad/\zGg (ρ x)=Ab/\(cellsOf (ρ x)).length=sz/\off+sz<=e.cells.length) k {e with cells:=setAt e.cells off (cellsOf (ρ x))} []
  |_,_=> .bad
 | .nilCheck x=>match ρ x with
  | .ptr cs=> .lit True (.ptr cs)
  | .own k off=> .lit True (.own k off)
  | .ifc t d=> .lit True (.ifc t d)
  | .clo (.func f) x y=> .lit True (.clo (.func f) x y)
  | .clo (.method n) (.ifc t d::x) y=>if(zLj P t n).isSome then .lit True (.clo (.method n) (.ifc t d::x) y)else .bad
  |_=> .bad
 | .binOp op t x y _=>aBin P op t (ρ x) (ρ y)
 | .unOp op _ x=>aUn op (ρ x)
 | .convert src dst x=>if T.hv (.convert src dst x)then zSk P src dst (ρ x) st else aConv P src dst (ρ x)
 | .makeInterface t x=>match P.underlying t with
  |some (.interface _)=> .bad
  |some _=> .lit True (.ifc t (ρ x))
  |none=> .bad
 | .makeFunc fn first cap=> .lit True (.clo fn (first.toList.map ρ) (cap.toList.map ρ))
 | .makeSlice t l c=>zEg P (zGj P T t) t (ρ l) (ρ c) st
 | .slice t x lo hi mx=>if mx.isSome&&hi.isNone then .bad else aSlice P t (ρ x) (lo.map ρ) (hi.map ρ) (mx.map ρ)
 | .fieldAddr t x f=>zJp P t (ρ x) f
 | .field t x f=>aField P t (ρ x) f
 | .indexAddr t x i=>zJo P t (ρ x) (ρ i)
 | .index t x i=>aIndex P t (ρ x) (ρ i)
 | .extract t i=>match ρ t with
  | .tup cs=> .lit (i<cs.length) (cs.getD i .unk)
  |_=> .bad
 | .call c=>match c.callee with
  | .builtin .len=>match c.argTypes.toList,c.args.toList with
   |t::_,x::_=>if T.hv (.call c)then zYw P t (ρ x) st else aLen P t (ρ x)
   |_,_=> .bad
  | .builtin .min=>match c.args.toList.map ρ with
   |[.val (.int k x), .val (.int _ y)]=> .lit True (.val (.int k (if y<x then y else x)))
   |_=> .bad
  | .builtin .max=>match c.args.toList.map ρ with
   |[.val (.int k x), .val (.int _ y)]=> .lit True (.val (.int k (if y>x then y else x)))
   |_=> .bad
  | .builtin .append=>match c.argTypes.toList,c.args.toList with
   |[t,u],[s,x]=>zFv P (zGj P T t) t u (unB (ρ s)) (ρ x) st
   |_,_=> .bad
  | .builtin .copy=>match c.argTypes.toList,c.args.toList with
   |[t,u],[s,x]=>aCopy P t u (ρ s) (ρ x) st
   |_,_=> .bad
  | .builtin .clear=>match c.argTypes.toList,c.args.toList with
   |[t],[x]=>zXu P t (ρ x) st
   |_,_=> .bad
  | .builtin _=> .bad
  | .value f=>match ρ f with
   | .clo (.func f) [] cap=>zJq P T.imp f (c.args.toList.map ρ++cap) st
   |_=> .bad
  | .invoke r name=>match ρ r with
   | .ifc t d=>match T.meth t name with
    |some f=>zJq P T.imp f (d::c.args.toList.map ρ) st
    |none=> .bad
   |_=> .bad
 |_=> .bad
end
def OwnC(I:Im)(w:World)(β:Be)(b cap:Nat)(e:Bk):Prop:=
 ∃cur:List Value,w.heap[b]?=Aa (.cells cur.toArray e.ty (0,0))/\e.cells.length<=cur.length/\RelL I w (if e.nob then noB else β) e.cells (cur.take e.cells.length)/\(e.arr=Ab->cur.length=cap*e.sz)/\cap<=maxLen
def OwnM(I:Im)(w:World)(β:Be)(b:Nat)(e:Bk)(ks:List Value):Prop:=∃vs,MapIs w b ks vs/\RelT I w (if e.nob then noB else β) e.cells vs
def OwnRel(I:Im)(w:World)(β:Be)(b cap:Nat)(e:Bk):Prop:=match e.kd with
 | .map ks=>OwnM I w β b e ks
 |_=>OwnC I w β b cap e
theorem OwnRel.c{I:Im}{w:World}{β:Be}{b cap:Nat}{e:Bk}(h:OwnRel I w β b cap e)(hk:e.kd.isMap=Ad):OwnC I w β b cap e:=by
 unfold OwnRel at h;split at h
 ·rename_i ks hm;rw[hm]at hk;cases hk
 exact h
theorem OwnC.r{I:Im}{w:World}{β:Be}{b cap:Nat}{e:Bk}(h:OwnC I w β b cap e)(hk:e.kd.isMap=Ad):OwnRel I w β b cap e:=by
 unfold OwnRel;split
 ·rename_i ks hm;rw[hm]at hk;cases hk
 exact h
theorem OwnRel.m{I:Im}{w:World}{β:Be}{b cap:Nat}{e:Bk}{ks:List Value}(h:OwnRel I w β b cap e)(hk:e.kd= .map ks):OwnM I w β b e ks:=by
 grind [OwnRel]
theorem OwnM.r{I:Im}{w:World}{β:Be}{b cap:Nat}{e:Bk}{ks:List Value}(h:OwnM I w β b e ks)(hk:e.kd= .map ks):OwnRel I w β b cap e:=by
 grind [OwnRel]
theorem Kd.cases(k:Kd):k.isMap=Ad\/∃ks,k= .map ks:=by
 cases k with
 |plain=>exact .inl rfl
 |sh=>exact .inl rfl
 |map ks=>exact .inr ⟨ks,rfl⟩
def SR(β:Be)(I:Im)(w:World)(st:List Bk):Prop:=∀k b cap,β k=Aa (b,cap)->∃e,st[k]?=Aa e/\OwnRel I w β b cap e
def Inj(β:Be):Prop:=∀k k' b c c',β k=Aa (b,c)->β k'=Aa (b,c')->k=k'
def FZ(β:Be)(I:Im)(st:List Bk):Prop:=∀k b c j (e:Bk),β k=Aa (b,c)->st[k]?=Aa e->I b j->e.fz=Ab/\(e.kd.isMap=Ab\/j<e.cells.length)
structure Stp(β:Be)(I:Im)(w:World)(β':Be)(I':Im)(w':World):Prop where
 fix:Fix I w I' w'
 size:w.heap.size<=w'.heap.size
 out:∀b,b<w.heap.size->(∀k c,β k≠Aa (b,c))->w'.heap[b]?=w.heap[b]?
 os:w'.os=w.os
 tape:w'.tape=w.tape
 output:w'.output=w.output
 dr:w.drawn<=w'.drawn
 be:∀k b c,β' k=Aa (b,c)->(∃k' c',β k'=Aa (b,c'))\/w.heap.size<=b
 im:∀b o,I' b o->I b o\/w.heap.size<=b\/∃k c,β k=Aa (b,c)
theorem Stp.refl(β:Be)(I:Im)(w:World):Stp β I w β I w:=⟨Fix.refl _ _,Af _,λ_ _ _=>rfl,rfl,rfl,rfl,Af _,λk b c h=> .inl ⟨k,c,h⟩,λ_ _ h=> .inl h⟩
theorem Stp.trans{β β' β'':Be}{I I' I'':Im}{w w' w'':World}(h:Stp β I w β' I' w')(k:Stp β' I' w' β'' I'' w''):Stp β I w β'' I'' w'':=by
 refine⟨h.fix.trans k.fix,Az h.size k.size,λb hb hn=>?_,k.os.trans h.os,k.tape.trans h.tape,k.output.trans h.output,Az h.dr k.dr,λi b c hi=>?_,λb o hi=>?_⟩
 ·rw[k.out b (A2 hb h.size) (λi c hi=>?_),h.out b hb hn];rcases h.be i b c hi with⟨k',c',hk⟩|hk
  ·exact hn k' c' hk
  omega
 ·rcases k.be i b c hi with⟨k',c',hk⟩|hk
  ·exact h.be k' b c' hk
  exact .inr (Az h.size hk)
 rcases k.im b o hi with hi|hi|⟨i,c,hi⟩
 ·exact h.im b o hi
 ·exact .inr (.inl (Az h.size hi))
 rcases h.be i b c hi with⟨k',c',hk⟩|hk;all_goals grind
def ImB(I:Im)(w:World):Prop:=∀b o,I b o->b<w.heap.size
def Gl(I:Im)(w:World):Prop:=∀t∈globT,∀(j:Nat) v,t.2[j]?=Aa v->I t.1 j/\w.cell? ⟨t.1,j,Ac⟩=Aa v
theorem Gl.mono{I I':Im}{w w':World}(h:Gl I w)(hf:Fix I w I' w'):Gl I' w':=λt ht j v hv=>⟨(hf _ _ (h t ht j v hv).1).1,(hf _ _ (h t ht j v hv).1).2.1 v (h t ht j v hv).2⟩
structure Sim(β:Be)(I:Im)(w:World)(sl:List D)(st:List Bk)(tm:List Value):Prop where
 rel:RelT I w β sl tm
 sr:SR β I w st
 inj:Inj β
 fz:FZ β I st
 dom:∀k x,β k=Aa x->k<st.length
 imb:ImB I w
 gl:Gl I w
def Pure(P:Program)(f:FuncId)(args:List D)(news:List Bk)(x:D):Prop:=
 ∀(I:Im)(w:World)(vs:List Value),RelT I w noB args vs->ImB I w->Gl I w->Calls P f vs.toArray w λe w'=>∃v I' γ,e= .returned v/\Ext w w'/\ImB I' w'/\Fix I w I' w'/\(∀b o,I' b o->I b o\/w.heap.size<=b)/\
  (∀k b c,γ k=Aa (b,c)->w.heap.size<=b)/\SR γ I' w' news/\Inj γ/\FZ γ I' news/\(∀k y,γ k=Aa y->k<news.length)/\Rel I' w' γ x v/\(∀e∈news,e.arr=Ab/\e.kd= .plain)
def Acts(P:Program)(f:FuncId)(args:List D)(st:List Bk)(ch:List Nat)(x:D)(st':List Bk):Prop:=
 ∀(β:Be)(I:Im)(w:World)(vs:List Value),RelT I w β args vs->SR β I w st->Inj β->FZ β I st->(∀k y,β k=Aa y->k<st.length)->ImB I w->Gl I w->Calls P f vs.toArray w λe w'=>∃v β' I',e= .returned v/\ImB I' w'/\Stp β I w β' I' w'/\
  (∀k y,k∉ch->β k=Aa y->β' k=Aa y)/\SR β' I' w' st'/\Inj β'/\FZ β' I' st'/\(∀k y,β' k=Aa y->k<st'.length)/\Rel I' w' β' x v
def evD(sl:List D):Operand->D
 | .tmp t=>sl.getD t .unk
 | .const v=> .val v
 | .global g=> .val (.pointer (Aa ⟨g,0,Ac⟩))
 | .func f=> .clo (.func f) [] []
def putD(sl:List D)(dst:Option Nat)(d:D):List D:=match dst with
 |some i=>sl.set i d
 |none=>sl
def zY(T:Par):Op->Bool
 | .convert s d x=>!T.hv (.convert s d x)
 | .move _| .assign _| .pick ..| .build ..| .nilCheck _| .binOp ..| .unOp ..| .makeInterface ..| .makeFunc ..| .slice ..| .fieldAddr ..| .field ..| .indexAddr ..| .index ..| .extract ..=>Ab
 | .call {callee:= .builtin .len,args:=a,argTypes:=t}=>!T.hv (.call {callee:= .builtin .len,args:=a,argTypes:=t})
 | .call {callee:= .builtin .min,..}| .call {callee:= .builtin .max,..}=>Ab
 |_=>Ad
def isE(T:Par):Op->Bool
 | .store ..| .mapUpdate ..| .insert ..=>Ab
 | .call {callee:= .builtin .append,..}=>Ab
 | .call {callee:= .builtin .copy,..}=>Ab
 | .call {callee:= .builtin .clear,..}=>Ab
 | .call {callee:= .value (.func f),..}=>T.imp f
 | .call {callee:= .value (.tmp i),args:=a,argTypes:=t}=>T.hv (.call {callee:= .value (.tmp i),args:=a,argTypes:=t})
 |_=>Ad
def zCm(ch:List Nat)(d:D):D:=if ch.any (refs · d)then .unk else d
def zCg(k:Nat)(e:Bk):Bk:=if e.nob then e else{e with cells:=e.cells.map (zA6 k)}
def Kp(T:Par)(β β':Be):Prop:=∀k x,T.keep k=Ab->β k=Aa x->β' k=Aa x
theorem Kp.refl(T:Par)(β:Be):Kp T β β:=λ_ _ _ h=>h
theorem Kp.trans{T:Par}{a b c:Be}(h:Kp T a b)(k:Kp T b c):Kp T a c:=λi x hk hx=>k i x hk (h i x hk hx)
theorem BeLe.kp{T:Par}{a b:Be}(h:BeLe a b):Kp T a b:=λi x _ hx=>h i x hx
section
variable (P : Program) (T : Par)
def seqW(ops:Array Oper)(dr:Bool):List Oper->List D->List Bk->(List D->List Bk->Prop)->Prop
 |[],sl,st,K=>K sl st
 | o::r,sl,st,K=>
  let go:Prop:=match aeff P T o.op o.type (evD sl) st with
   | .bad=>False
   | .lit p d=>zY T o.op=Ab/\p/\seqW ops dr r (putD sl o.dst d) st K
   | .get p d=>zY T o.op=Ad/\p/\seqW ops dr r (putD sl o.dst d) st K
   | .new p b d fz=>zY T o.op=Ad/\p/\seqW ops dr r (putD sl o.dst d) (zAo st fz++[b]) K
   | .call f args fz=>zY T o.op=Ad/\∃news x,Pure P f args news x/\seqW ops dr r (putD sl o.dst (if news.isEmpty then x else zBf st.length x)) (zAo st fz++news) K
   | .put p k b fz=>isE T o.op=Ab/\p/\seqW ops dr r (putD sl o.dst .unk) ((zAo st fz).set k b) K
   | .app p k b d=>isE T o.op=Ab/\(T.keep k=Ad/\p)/\seqW ops dr r (putD (sl.map (zA6 k)) o.dst d) ((st.map (zCg k)).set k b) K
   | .act f args=>zY T o.op=Ad/\(dr=Ad\/isE T o.op=Ab)/\∃ch x st',(Acts P f args st ch x st'/\∀k∈ch,T.keep k=Ad)/\seqW ops dr r (putD (sl.map (zCm ch)) o.dst x) st' K
  match o.guard with
  |none=>go
  |some (j,want)=>match((ops[j]?).bind (·.dst)).map (λt=>sl.getD t .unk)with
   |some (.val (.bool b))=>(b=want->go)/\(b=!want->seqW ops dr r (putD sl o.dst (.val undef)) st K)
   |some (.val (.tuple _))=>seqW ops dr r (putD sl o.dst (.val undef)) st K
   |_=>False
def Weak(sl:List D)(st:List Bk)(sl':List D)(st':List Bk):Prop:=
 ∀β I w tm,Sim β I w sl st tm->∃β' I',Sim β' I' w sl' st' tm/\Stp β I w β' I' w/\Kp T β β'
def deps(o:Oper):List Nat:=o.after.toList.filterMap λe=>if Region.binds .any e then Aa e.on else Ac
def pos(ord:List Nat)(i:Nat):Nat:=ord.findIdx (· ==i)
def zP4(ops:Array Oper):List Nat->List Nat->List Nat
 |[],A=>A
 |i::r,A=>zP4 ops r (A.set i ((deps (ops.getD i Ai)).foldl (λm d=>m|||2^d|||A.getD d 0) 0))
def zX4(ops:Array Oper)(ord:List Nat):Bool:=
 let A:=zP4 ops ord (A1 ops.size 0)
 let wt (i x:Nat):Bool:=(A.getD i 0).testBit x
 let Z:=ops.toList.zipIdx
 ord.length==ops.size&&ord.all (· <ops.size)&&decide ord.Nodup&&(List.range ops.size).all (λi=>ord.contains i)&&Region.noSelect ops&&
 decide (ops.toList.filterMap (·.dst)).Nodup&&
 Z.all (λp=>(deps p.1).all (λd=>d<ops.size&&pos ord d<pos ord p.2)&&
  (p.1.looksAt ops).all (λs=>Z.all λq=>q.1.dst !=Aa s||p.2==q.2||((wt p.2 q.2||wt q.2 p.2)&&(!zY T p.1.op||wt p.2 q.2||(deps q.1).contains p.2)&&(!zY T q.1.op||(deps p.1).contains q.2||wt q.2 p.2)))&&
  (!isE T p.1.op||Z.all λq=>p.2==q.2||if pos ord q.2<pos ord p.2 then zY T q.1.op||wt p.2 q.2 else(deps q.1).any λd=>pos ord p.2<=pos ord d))
def gv(ops:Array Oper)(o:Oper)(sl:List D):Option Bool:=match o.guard with
 |none=>Aa Ab
 |some (j,want)=>match((ops[j]?).bind (·.dst)).map (λt=>sl.getD t .unk)with
  |some (.val (.bool b))=>Aa (b==want)
  |some (.val (.tuple _))=>Aa Ad
  |_=>Ac
def SameB(e e':Bk):Prop:=e'.cells=e.cells/\e'.ty=e.ty/\e'.sz=e.sz/\e'.arr=e.arr/\e'.kd=e.kd/\(e.fz=Ab->e'.fz=Ab)
def zHj(ops:Array Oper)(o:Oper)(n:Nat)(sl:List D)(st:List Bk):Prop:=match gv ops o sl with
 |some Ab=>match aeff P T o.op o.type (evD sl) (st.take n)with
  | .lit p d=>zY T o.op=Ab/\p/\∀x,o.dst=Aa x->sl[x]?=Aa d
  | .get p d=>zY T o.op=Ad/\p/\∀x,o.dst=Aa x->sl[x]?=Aa d
  | .new p b d fz=>zY T o.op=Ad/\p/\fz=[]/\(∃x,o.dst=Aa x/\sl[x]?=Aa d)/\∃e,st[n]?=Aa e/\SameB b e
  |_=>False
 |some Ad=>∀x,o.dst=Aa x->sl[x]?=Aa (.val undef)
 |none=>False
def lateAll(ops:Array Oper)(c:List (Nat×Nat))(sl:List D)(st:List Bk):Prop:=∀x∈c,zHj P T ops (ops.getD x.1 Ai) x.2 sl st
def zRm(o:Oper)(n:Nat)(sl:List D):Prop:=∀y∈o.op.operands,refs n (evD sl y)=Ad
abbrev zJr:=Nat×List (Nat×Nat)×List Nat
def lateN(ops:Array Oper)(c:List (Nat×Nat))(n:Nat)(sl:List D)(st:List Bk):Prop:=n<=st.length/\lateAll P T ops c sl st
def seqI(ops:Array Oper):List zJr->List D->List Bk->(List D->List Bk->Prop)->Prop
 |[],sl,st,K=>K sl st
 | (e,c,l)::r,sl,st,K=>(∀x∈c,x.2<st.length->zRm (ops.getD e Ai) x.2 sl)/\seqW P T ops Ab [ops.getD e Ai] sl st λsl' st'=>lateN P T ops c st.length sl' st'/\
   seqW P T ops Ab (l.map λi=>ops.getD i Ai) sl' st' λsl st=>seqI ops r sl st K
def seqF(ops:Array Oper)(l0:List Nat)(its:List zJr)(sl:List D)(st:List Bk)(K:List D->List Bk->Prop):Prop:=
 seqW P T ops Ab (l0.map λi=>ops.getD i Ai) sl st λsl st=>seqI P T ops its sl st K
def zA7(its:List zJr):List Nat:=its.flatMap λx=>x.1::x.2.2
def zD2(l0:List Nat)(its:List zJr):List Nat:=l0++zA7 its
def zM2(its:List zJr)(e:Nat):List Nat:=match its.find? λx=>x.1==e with
 |some x=>x.2.1.map (·.1)
 |none=>[]
def zDh:Op->Bool
 | .call {callee:= .value _,..}=>Ab
 | .call {callee:= .invoke ..,..}=>Ab
 |_=>Ad
def noNew(o:Op):Bool:=zY T o||match o with
 | .load ..| .lookup ..=>Ab
 |_=>Ad
def zK7(ops:Array Oper)(l0:List Nat)(its:List zJr):Bool:=
 let ord:=zD2 l0 its
 let A:=zP4 ops ord (A1 ops.size 0)
 let wt (i x:Nat):Bool:=(A.getD i 0).testBit x
 let Z:=ops.toList.zipIdx
 ord.length==ops.size&&ord.all (· <ops.size)&&decide ord.Nodup&&(List.range ops.size).all (λi=>ord.contains i)&&Region.noSelect ops&&
 decide (ops.toList.filterMap (·.dst)).Nodup&&
 Z.all (λp=>(deps p.1).all (λd=>d<ops.size&&pos ord d<pos ord p.2)&&
  (p.1.looksAt ops).all (λs=>Z.all λq=>q.1.dst !=Aa s||p.2==q.2||((wt p.2 q.2||wt q.2 p.2)&&(!zY T p.1.op||wt p.2 q.2||(deps q.1).contains p.2)&&(!zY T q.1.op||(deps p.1).contains q.2||wt q.2 p.2)))&&
  (!isE T p.1.op||(let L:=zM2 its p.2
   (!zDh p.1.op||L.all λq=>noNew T (ops.getD q Ai).op)&&Z.all λq=>p.2==q.2||if pos ord q.2<pos ord p.2 then wt p.2 q.2||L.contains q.2||(zY T q.1.op&&(deps q.1).all λd=>!L.contains d)else(deps q.1).any λd=>pos ord p.2<=pos ord d)))&&
 its.all λs=>s.2.1.all λx=>let o:=ops.getD x.1 Ai
  x.1<ops.size&&!isE T o.op&&!zDh o.op&&o.guard.isNone&&(o.looksAt ops).all λy=>o.dst !=Aa y&&Z.all λq=>q.1.dst !=Aa y||x.1==q.2||wt x.1 q.2
def zW(K:List D->List Bk->Prop)(Q:Exit->List D->List Bk->Prop):Exit->List D->List Bk->Prop
 | .normal=>K
 |e=>Q e
def zP(id:Nat)(Q:Exit->List D->List Bk->Prop):Exit->List D->List Bk->Prop
 | .exit j=>if j=id then Q .normal else Q (.exit j)
 |e=>Q e
def awp:Code->(Exit->List D->List Bk->Prop)->List D->List Bk->Prop
 | .skip,Q,sl,st=>Q .normal sl st
 | .region _ ops dr,Q,sl,st=>if dr then(∃ord,zX4 T ops ord=Ab/\seqW P T ops Ab (ord.map λi=>ops.getD i Ai) sl st (Q .normal))\/∃l0 its,zK7 T ops l0 its=Ab/\seqF P T ops l0 its sl st (Q .normal)else seqW P T ops Ad ops.toList sl st (Q .normal)
 | .seq a b,Q,sl,st=>awp a (zW (λsl st=>∃sl' st',Weak T sl st sl' st'/\awp b Q sl' st') Q) sl st
 | .cond c x y,Q,sl,st=>match evD sl c with
  | .val (.bool t)=>(t=Ab->awp x Q sl st)/\(t=Ad->awp y Q sl st)
  |_=>False
 | .block id b,Q,sl,st=>awp b (zP id Q) sl st
 | .loop b,Q,sl,st=>∀X:List D->List Bk->Prop,(∀(Y:List D->List Bk->Prop) sl st,(∀sl' st',Y sl' st'->∃sl'' st'',Weak T sl' st' sl'' st''/\X sl'' st'')->awp b (zW Y Q) sl st->X sl st)->∃sl' st',Weak T sl st sl' st'/\X sl' st'
 | .exit id,Q,sl,st=>Q (.exit id) sl st
 | .label _,Q,sl,st=>Q .normal sl st
 | .ret,Q,sl,st=>Q .ret sl st
 |_,_,_,_=>False
end
section
variable {P : Program} {T : Par} {I : Im} {w : World} {β : Be} {sl : List D} {st : List Bk} {a : Act}
theorem zAi(h:RelT I w β sl a.tmps.toList)(x:Operand):Rel I w β (evD sl x) (a.eval x):=by
 cases x with
 | tmp t=>
  simp only[evD,Act.eval,AC];cases ht:sl[t]? with
  |none=>simp only[Option.getD_none,Rel]
  |some d=>
   obtain⟨v,h1,h2⟩:=h.get t d ht;simp_all
 |const v=>simp only[evD,Act.eval,Rel]
 |global g=>simp only[evD,Act.eval,Rel]
 |func f=>
  simp only[evD,Act.eval,Rel,RelT];grind
theorem zLz(h:RelT I w β sl a.tmps.toList):∀(xs:List Operand),RelT I w β (xs.map (evD sl)) (xs.map a.eval)
 |[]=>by simp only[AD,RelT]
 |x::xs=>by simp only[Au,RelT];exact⟨_,_,rfl,zAi h x,zLz h xs⟩
theorem RelT.append{β:Be}:∀{x y:List D}{u v:List Value},RelT I w β x u->RelT I w β y v->RelT I w β (x++y) (u++v)
 |[],y,u,v,h,k=>by simp only[RelT]at h;subst h;simpa using k
 |d::x,y,u,v,h,k=>by
  simp only[RelT]at h;obtain⟨a,us,rfl,h1,h2⟩:=h;simp only[Bb,RelT];exact⟨a,us++v,rfl,h1,h2.append k⟩
theorem zLi{t:TypeId}{name:String}{f:FuncId}(h:zLj P t name=Aa f):∃i u m,P.info? t=Aa i/\P.underlying t=Aa u/\i.methods.find? (·.name==name)=Aa m/\m.path=#[]/\m.func=Aa (f,isPtr u):=by
 unfold zLj at h;grind
theorem zX7{t:TypeId}{name:String}{f:FuncId}(h:zLj P t name=Aa f)(n:Nat)(v:Value)(W:World):(method (n+1) t v name).run P W= .ok (f,v) W:=by
 obtain⟨i,u,m,h1,h2,h3,h4,h5⟩:=zLi h;simp only[method,typeInfo,Ae];rw[show(program:Sem Program).run P W= .ok P W from rfl];simp only[Ag,h1,h3,h4,h5,An,follow,Ae];simp only[receiverAt,Ae,run_underlying h2 W,Ag];cases u<;>simp[isPtr,Place.get]
theorem zRa{t:TypeId}{name:String}{f:FuncId}(h:zLj P t name=Aa f)(n:Nat)(v:Value)(W:World):(nilAhead (n+1) t v name).run P W= .ok (Aa Ad) W:=by
 obtain⟨i,u,m,h1,h2,h3,h4,h5⟩:=zLi h;simp only[nilAhead,typeInfo,Ae];rw[show(program:Sem Program).run P W= .ok P W from rfl];simp only[Ag,h1,h3,h4,h5,An,followBlind,Ae];cases u<;>simp[isPtr,run_underlying h2 W]
theorem zKt{t:TypeId}{s:Nat}(h:tySz P t=Aa s):∃i d,P.info? t=Aa i/\i.size=s/\P.underlying t=Aa d:=by
 unfold tySz at h;cases hu:P.underlying t with
 |none=>simp[hu]at h
 |some d=>
  simp_all
theorem zCf{t:TypeId}{s:Nat}(h:tySz P t=Aa s)(W:World):(sizeOf t).run P W= .ok s W:=by
 obtain⟨i,d,h1,h2,_⟩:=zKt h;simp[sizeOf,typeInfo,h1,h2]
theorem zSw{t:TypeId}{s:Nat}(h:tySz P t=Aa s)(W:World):(isAgg t).run P W= .ok (zDw P t) W:=by
 obtain⟨i,d,h1,h2,h3⟩:=zKt h;unfold isAgg zDw;rw[Ae,run_underlying h3 W];cases d<;>simp[h3]
theorem zZf{d:D}{v:Value}(h:Rel I w β d v):Rel I w β (unB d) v:=by
 unfold unB;split
 ·simp only[Rel]at h⊢;exact h.1
 exact h
theorem refs_unB(k:Nat)(d:D):refs k (unB d)=refs k d:=by
 unfold unB;split
 ·simp only[refs]
 rfl
theorem zE4{d:D}{v:Value}(hv:zGg d=Ab)(h:Rel I w β d v):RelL I w β (cellsOf d) v.cells.toList:=by
 have one:zFm d=Ab->cellsOf d=[d]->RelL I w β (cellsOf d) v.cells.toList:=by
  intro hc he;have h1:v.oneCell'=true:=by
   cases d<;>simp only[zFm,Rel,Al]at hc h
   ·subst h;exact hc
   ·obtain⟨_,_,rfl,_⟩:=h;rfl
   ·obtain⟨_,_,rfl,_⟩:=h;rfl
   ·obtain⟨_,_,rfl,_⟩:=h;rfl
   ·obtain⟨_,rfl,_⟩:=h;rfl
   ·obtain⟨_,_,_,rfl⟩:=h;rfl
   ·rcases h with⟨_,_,rfl⟩|⟨_,_,_,_,_,rfl,_⟩|⟨_,_,_,_,rfl,_⟩<;>rfl
   ·obtain⟨_,_,_,rfl⟩:=h;rfl
   ·obtain⟨_,_,rfl,_⟩:=h;rfl
   ·exact h.1
   obtain⟨_,_,_,rfl,_⟩:=h;rfl
  have h2:v.cells.toList=[v]:=by cases v<;>simp_all [Value.cells,Value.oneCell']
  rw[he,h2];simp only[RelL];grind
 cases d with
 |agg cs=>
  simp only[Rel]at h;obtain⟨vs,rfl,h⟩:=h;simpa[cellsOf,Value.cells]using h
 |unk=>simp[zGg,zFm]at hv
 |tup cs=>simp[zGg,zFm]at hv
 |_=>exact one (by simpa[zGg]using hv) rfl
theorem RelL.set{β:Be}{cs:List D}{vs:List Value}(h:RelL I w β cs vs){d:D}{v:Value}(hd:Rel I w β d v)(h1:v.oneCell'=Ab)(i:Nat):RelL I w β (cs.set i d) (vs.set i v):=by
 refine RelL.of_get (by simp[h.length]) λj x y hx hy=>?_;rw[Bc]at hx hy;have hl:=h.length;split at hx
 ·grind
 rename_i hne;rw[if_neg hne]at hy;obtain⟨y',k1,k2,k3⟩:=h.get j x hx;grind
def zC4(cs:List Value)(off:Nat):List Value->List Value
 |[]=>cs
 |d::ds=>zC4 (cs.set off d) (off+1) ds
theorem RelL.setAt{β:Be}:∀{ds:List D}{us:List Value}{cs:List D}{vs:List Value}(off:Nat),RelL I w β ds us->RelL I w β cs vs->RelL I w β (setAt cs off ds) (zC4 vs off us)
 |[],us,cs,vs,off,h,k=>by simp only[RelL]at h;subst h;simpa[Proofs.YthmfohpkimflhaaGreatDoor.setAt,zC4]using k
 |d::ds,us,cs,vs,off,h,k=>by
  simp only[RelL]at h;obtain⟨u,us',rfl,h1,h2,h3⟩:=h;simp only[Proofs.YthmfohpkimflhaaGreatDoor.setAt,zC4];exact RelL.setAt (off+1) h3 (k.set h2 h1 off)
theorem foldl_set(us:List Value):∀(cs:List Value)(off j:Nat),((us.zipIdx j).foldl (λ(c:Array Value)(x:Value×Nat)=>c.setIfInBounds (off+x.2) x.1) cs.toArray)=(zC4 cs (off+j) us).toArray:=by
 induction us with
 |nil=>intro cs off j;rfl
 |cons u us ih=>
  intro cs off j;simp only[List.zipIdx_cons,List.foldl_cons,zC4,Bo];rw[ih,Nat.add_assoc]
theorem zE1:∀(us cs:List Value)(off:Nat),(zC4 cs off us).length=cs.length
 |[],_,_=>rfl
 |u::us,cs,off=>by rw[zC4,zE1 us];simp
theorem zCw:∀(us cs:List D)(off:Nat),(setAt cs off us).length=cs.length
 |[],_,_=>rfl
 |u::us,cs,off=>by rw[setAt,zCw us];simp
theorem zGa{place place':Nat->Option (Nat×Nat)}(hpl:∀i x,place i=Aa x->place' i=Aa x):∀(ps:List (Nat×D))(vs:List (Nat×Value))(cs:List D)(us:List Value)(p:Prop)(x:List D),ps.length=vs.length->
  (∀(j:Nat) i d i' v,ps[j]?=Aa (i,d)->vs[j]?=Aa (i',v)->i'=i/\Rel I w β d v)->RelL I w β cs us->zH1 place ps cs=Aa (p,x)->p->∃ys,Instr.fill place' us.toArray vs=Aa ys.toArray/\RelL I w β x ys
 |[],vs,cs,us,p,x,hl,hr,hc,hf,hp=>by
  have:vs=[]:=AR (by simpa using hl.symm);subst this;simp only[zH1,Ah.injEq,Am.injEq]at hf;obtain⟨_,rfl⟩:=hf;exact⟨us,rfl,hc⟩
 |(i,d)::ps,[],cs,us,p,x,hl,hr,hc,hf,hp=>by simp at hl
 | (i,d)::ps,(i',v)::vs,cs,us,p,x,hl,hr,hc,hf,hp=>by
  obtain⟨rfl,hd⟩:=hr 0 i d i' v rfl rfl;simp only[zH1]at hf;cases hpi:place i' with
  |none=>simp[hpi]at hf
  | some os=>
   obtain⟨off,sz⟩:=os;simp only[hpi]at hf;split at hf
   ·rename_i hv;cases hr':zH1 place ps (setAt cs off (cellsOf d))with
    |none=>simp[hr']at hf
    |some px=>
     obtain⟨p',x'⟩:=px;simp only[hr',Ah.injEq,Am.injEq]at hf;obtain⟨rfl,rfl⟩:=hf;obtain⟨hp1,hp2,hp3⟩:=hp;have hcl:=zE4 hv hd;have hlen:v.cells.size=sz:=by rw[<-hp1,hcl.length];simp
     have hlu:us.length=cs.length:=hc.length.symm;obtain⟨ys,k1,k2⟩:=zGa hpl ps vs (setAt cs off (cellsOf d)) (zC4 us off v.cells.toList) p' x' (by simpa using hl) (λj=>by simpa using hr (j+1)) (RelL.setAt off hcl hc) hr' hp3;refine⟨ys,?_,k2⟩;simp only[Instr.fill,hpl _ _ hpi];rw[if_neg (by simp[hlen];omega)]
     have:=foldl_set v.cells.toList us off 0
     rw[AL]at this;grind [Array.toList_zipIdx]
   cases hf
end
section
variable {P : Program} {T : Par} {I : Im} {w : World} {β : Be} {sl : List D} {st : List Bk} {a : Act}
def Yl(P:Program)(I:Im)(w:World)(β:Be)(s:Sem Value)(d:D):Prop:=∃v,(∀W:World,s.run P W= .ok v W)/\Rel I w β d v
theorem Yl.mk{s:Sem Value}{d:D}{v:Value}(h:∀W:World,s.run P W= .ok v W)(hr:Rel I w β d v):Yl P I w β s d:=⟨v,h,hr⟩
theorem Rel.valI(v:Value):Rel I w β (.val v) v:=by simp only[Rel]
theorem yl_int{op:BinOp}{k:IntKind}{x y:Int}{p:Prop}{d:D}(hs:op≠ .shl/\op≠ .shr)(he:aInt op k x y= .lit p d)(hp:p)(t:TypeId):Yl P I w β (binOp op t (.int k x) (.int k y)) d:=by
  cases op<;>simp only[aInt,Eff.lit.injEq,reduceCtorEq,ne_eq,not_true_eq_false,false_and,and_false]at he hs<;>obtain⟨rfl,rfl⟩:=he<;>
    first
    |(refine Yl.mk (λW=>?_) (Rel.valI _);simp[binOp,Op.intArith,Op.intBits,Op.intCmp];done)
    |(refine Yl.mk (λW=>?_) (Rel.valI _);simp[binOp,Op.intArith,Op.intBits,Op.intCmp];rfl)
    |(refine Yl.mk (λW=>?_) (Rel.valI _);simp[binOp,Op.intDiv,hp];done)
theorem yl_str{op:BinOp}{x y:ByteArray}{p:Prop}{d:D}(he:aStr op x y= .lit p d)(hp:p)(t:TypeId):Yl P I w β (binOp op t (.string x) (.string y)) d:=by
  cases op<;>simp only[aStr,Eff.lit.injEq,reduceCtorEq]at he<;>obtain⟨rfl,rfl⟩:=he<;>
    first
    | (refine Yl.mk (λW=>?_) (Rel.valI _)
       have:¬(((x.size+y.size:Nat):Int)>IntKind.i64.max):=by
          simp_all
       simp only[binOp,Op.stringOp];rw[if_neg this];rfl)
    |(refine Yl.mk (λW=>?_) (Rel.valI _);simp[binOp,Op.stringOp];done)
    |(refine Yl.mk (λW=>?_) (Rel.valI _);simp[binOp,Op.stringOp];rfl)
theorem zZy{t:TypeId}(hu:P.underlying t=Aa .bool)(x y:Bool)(W:World):(Op.equal t (.bool x) (.bool y)).run P W= .ok (x==y) W:=by
  show(Op.equalIn (9999+1) t (.bool x) (.bool y)).run P W=_;rw[Op.equalIn,Ae,run_underlying hu W];rfl
theorem yl_un{op:UnOp}{x:D}{u:Value}{p:Prop}{d:D}(hx:Rel I w β x u)(he:aUn op x= .lit p d):Yl P I w β (Op.unary op u) d:=by
  unfold aUn at he;split at he
  · simp only[Rel]at hx;subst hx
    simp only[Eff.lit.injEq]at he;obtain⟨rfl,rfl⟩:=he;exact Yl.mk (λW=>by simp[Op.unary]) (Rel.valI _)
  · simp only[Rel]at hx;subst hx
    simp only[Eff.lit.injEq]at he;obtain⟨rfl,rfl⟩:=he;exact Yl.mk (λW=>by simp[Op.unary,Op.intArith]) (Rel.valI _)
  cases he
theorem yl_conv{src dst:TypeId}{x:D}{u:Value}{p:Prop}{d:D}(hx:Rel I w β x u)(he:aConv P src dst x= .lit p d):Yl P I w β (convert src dst u) d:=by
  unfold aConv at he;split at he
  · rename_i h1 h2
    simp only[Rel]at hx;subst hx;simp only[Eff.lit.injEq]at he;obtain⟨rfl,rfl⟩:=he;exact Yl.mk (λW=>by simp[convert,Ae,run_underlying h1,run_underlying h2,Conv.intToInt]) (Rel.valI _)
  · rename_i h1 h2
    simp only[Rel]at hx;subst hx;simp only[Eff.lit.injEq]at he;obtain⟨rfl,rfl⟩:=he;exact Yl.mk (λW=>by simp[convert,Ae,run_underlying h1,run_underlying h2]) (Rel.valI _)
  cases he
theorem zLy{t:TypeId}{f o:Nat}{ft:TypeId}(h:zPq P t f=Aa (o,ft)):∃fs fl,P.underlying t=Aa (.struct fs)/\fs[f]?=Aa fl/\fl.offset=o/\fl.type=ft:=by
  grind [zPq]
theorem RelL.sub{β:Be}{cs:List D}{vs:List Value}(h:RelL I w β cs vs)(o n:Nat):RelL I w β ((cs.drop o).take n) ((vs.drop o).take n):=by
  refine RelL.of_get (by simp[h.length]) λj x y hx hy=>?_;rw[Ar]at hx hy;split at hx
  · rename_i hj
    rw[if_pos hj]at hy;rw[A0]at hx hy;obtain⟨y',k1,k2,k3⟩:=h.get _ x hx;grind
  cases hx
theorem RelL.getD{β:Be}{cs:List D}{vs:List Value}(h:RelL I w β cs vs){o:Nat}(ho:o<cs.length):∃v,vs[o]?=Aa v/\v.oneCell'=Ab/\Rel I w β (cs.getD o .unk) v:=by
  obtain⟨v,h1,h2,h3⟩:=h.get o cs[o] (by simp[ho]);grind
theorem zSm{t:TypeId}{s:Nat}{cs:List D}{vs:List Value}(o:Nat)(hs:tySz P t=Aa s)(h:RelL I w β cs vs):
    (zDw P t=Ab->o+s<=cs.length->Yl P I w β (part t vs.toArray o) (.agg ((cs.drop o).take s)))/\(zDw P t=Ad->o<cs.length->Yl P I w β (part t vs.toArray o) (cs.getD o .unk)):=by
  constructor
  · intro ha hl
    refine Yl.mk (v:= .agg ((vs.drop o).take s).toArray) (λW=>?_) ?_
    · simp only[part,Ae,zSw hs,ha,Ag,if_true,zCf hs,An]
      congr 2;apply Aw;simp
    simp only[Rel];exact⟨_,rfl,h.sub o s⟩
  · intro ha hl
    obtain⟨v,h1,h2,h3⟩:=h.getD hl;refine Yl.mk (v:=v) (λW=>?_) h3;simp[part,Ae,zSw hs,ha,h1]
theorem zLc{t:TypeId}{cs:List D}{vs:List Value}{o:Nat}{d:D}(h:RelL I w β cs vs)(hp:partD P t cs o=Aa d):Yl P I w β (part t vs.toArray o) d:=by
  unfold partD at hp;split at hp
  ·cases hp
  · rename_i s hs
    have hq:=zSm (P:=P) (I:=I) (w:=w) (β:=β) o hs h;grind
theorem zRt{rec:TypeId->D->D->Option Bool}{d:Nat}(ih:∀t x y b u v,Rel I w β x u->Rel I w β y v->rec t x y=Aa b->∀W,(Op.equalIn d t u v).run P W= .ok b W){xs ys:List D}{vs us:List Value}(hx:RelL I w β xs vs)(hy:RelL I w β ys us):
    ∀(fs:List Field)(b:Bool),eqF P rec xs ys fs=Aa b->∀W,(Op.eqFields d vs.toArray us.toArray fs).run P W= .ok b W
  |[],b,h,W=>by simp only[eqF,Ah.injEq]at h;subst h;simp[Op.eqFields]
  | f ::fs,b,h,W=>by
    simp only[eqF]at h;split at h
    ·cases h
    rename_i hn;have hn':f.name≠ "_" :=by simpa using hn
    split at h
    · rename_i a c h1 h2
      split at h
      · rename_i r q h3 h4
        simp only[Ah.injEq]at h;subst h;obtain⟨v1,r1,k1⟩:=zLc hx h1;obtain⟨v2,r2,k2⟩:=zLc hy h2;have e:=ih _ _ _ _ _ _ k1 k2 h3;have e2:=zRt ih hx hy fs q h4;simp only[Op.eqFields,if_pos hn',Ae,r1,r2,e,Ag];cases r
        ·simp
        simp[e2]
      cases h
    cases h
theorem zL0:∀(n:Nat)(t:TypeId)(x y:D)(b:Bool)(u v:Value),Rel I w β x u->Rel I w β y v->eqD P n t x y=Aa b->∀d,n<=d->∀W,(Op.equalIn d t u v).run P W= .ok b W
  |0,t,x,y,b,u,v,hx,hy,h=>by simp[eqD]at h
  | n + 1,t,x,y,b,u,v,hx,hy,h=>by
    intro d hd W;obtain⟨d,rfl⟩:∃e,d=e+1:=⟨d-1,by omega⟩;unfold eqD at h;split at h
    · rename_i hu
      simp only[Rel]at hx hy;subst hx;subst hy;cases h;exact run_equalIn_bool' W d t _ _ hu
    · rename_i hu
      simp only[Rel]at hx hy;subst hx;subst hy;split at h
      · subst_vars
        cases h;exact run_equalIn_int W d t _ _ _ _ hu
      cases h
    · rename_i hu
      simp only[Rel]at hx hy;subst hx;subst hy;cases h;exact run_equalIn_string W d t _ _ hu
    · rename_i fs xs ys hu
      simp only[Rel]at hx hy;obtain⟨vs,rfl,hx⟩:=hx;obtain⟨us,rfl,hy⟩:=hy;split at h
      ·cases h
      rename_i hs;have hf:P.fieldsOf t=fs:=by simp[Program.fieldsOf,hu]
      rw[run_equalIn_struct W d t _ _ (by rw[hf];exact hu) (by simpa using hs),hf];exact zRt (λt x y b u v h1 h2 h3 W=>zL0 n t x y b u v h1 h2 h3 d (by omega) W) hx hy _ _ h W
    cases h
theorem yl_eqS{op:BinOp}{t:TypeId}{xs ys:List D}{u v:Value}{p:Prop}{d:D}(hx:Rel I w β (.agg xs) u)(hy:Rel I w β (.agg ys) v)(he:aEqS P op t (.agg xs) (.agg ys)= .lit p d)(ox oy:Operand):
    Yl P I w β (do eqGuard op t ox oy u v;binOp op t u v) d:=by
  unfold aEqS at he;split at he
  ·cases he
  rename_i hm;have hx':=hx;have hy':=hy;simp only[Rel]at hx hy;obtain⟨vs,rfl,_⟩:=hx;obtain⟨us,rfl,_⟩:=hy;split at he
  · rename_i b hb
    cases he;refine Yl.mk (λW=>?_) (Rel.valI _);rw[Ae,run_eqGuard_agg W _ t ox oy _ _ (by simpa using hm),Ag,run_eql_struct,zL0 6 t _ _ b _ _ hx' hy' hb 10000 (by decide) W];rfl
  · rename_i b hb
    cases he;refine Yl.mk (λW=>?_) (Rel.valI _);rw[Ae,run_eqGuard_agg W _ t ox oy _ _ (by simpa using hm),Ag,run_neq_struct,zL0 6 t _ _ b _ _ hx' hy' hb 10000 (by decide) W];rfl
  cases he
def zP8:NK->Value->Value->Bool->Prop
  | .ptr,u,v,b=>∃a,u= .pointer a/\v= .pointer Ac/\b=a.isNone
  | .map,u,v,b=>∃a,u= .map a/\v= .map Ac/\b=a.isNone
  | .slice,u,v,b=>∃a n c,u= .slice a n c/\v= .slice Ac 0 0/\b=a.isNone
  | .func,u,v,b=>v= .nilFunc/\((u= .nilFunc/\b=Ab)\/∃f x y,u= .func f x y/\b=Ad)
theorem nilEq{t:TypeId}{nk:NK}{u v:Value}{b:Bool}(hk:(P.underlying t).bind nkOf=Aa nk)(h:zP8 nk u v b)(W:World):(Op.equal t u v).run P W= .ok b W:=by
  obtain⟨d,hd,hn⟩:=Bp.1 hk;have key:∀n,(Op.equalIn (n+1) t u v).run P W= .ok b W:=by
    intro n;cases nk<;>cases d<;>simp only[nkOf,Ah.injEq,reduceCtorEq]at hn
    · obtain⟨a,rfl,rfl,rfl⟩:=h
      rw[Op.equalIn,Ae,run_underlying hd W,Ag];cases a<;>rfl
    · obtain⟨a,rfl,rfl,rfl⟩:=h
      rw[Op.equalIn,Ae,run_underlying hd W,Ag];cases a<;>rfl
    ·obtain⟨rfl,⟨rfl,rfl⟩|⟨f,x,y,rfl,rfl⟩⟩:=h<;>rw[Op.equalIn,Ae,run_underlying hd W,Ag]<;>rfl
    · obtain⟨a,m,c,rfl,rfl,rfl⟩:=h
      rw[Op.equalIn,Ae,run_underlying hd W,Ag];cases a<;>rfl
  exact key 9999
theorem zWb{op:BinOp}{t:TypeId}{nk:NK}{u v:Value}{b:Bool}(h:zP8 nk u v b)(ox oy:Operand)(W:World):(eqGuard op t ox oy u v).run P W= .ok () W:=by
  cases nk
  ·obtain⟨a,rfl,rfl,rfl⟩:=h;cases op<;>simp[eqGuard]
  ·obtain⟨a,rfl,rfl,rfl⟩:=h;cases op<;>simp[eqGuard]
  ·obtain⟨rfl,⟨rfl,rfl⟩|⟨f,x,y,rfl,rfl⟩⟩:=h<;>cases op<;>simp[eqGuard]
  obtain⟨a,n,c,rfl,rfl,rfl⟩:=h;cases op<;>simp[eqGuard]
theorem nilBin{t:TypeId}{nk:NK}{u v:Value}{b:Bool}(hk:(P.underlying t).bind nkOf=Aa nk)(h:zP8 nk u v b)(W:World):(binOp .eql t u v).run P W= .ok (.bool b) W/\(binOp .neq t u v).run P W= .ok (.bool (!b)) W:=by
  have:=nilEq hk h W
  cases nk
  ·obtain⟨x,rfl,rfl,rfl⟩:=h;constructor<;>simp[binOp,this]
  ·obtain⟨x,rfl,rfl,rfl⟩:=h;constructor<;>simp[binOp,this]
  ·obtain⟨rfl,⟨rfl,rfl⟩|⟨f,x,y,rfl,rfl⟩⟩:=h<;>constructor<;>simp[binOp,this]
  obtain⟨x,m,c,rfl,rfl,rfl⟩:=h;constructor<;>simp[binOp,this]
theorem zEi{op:BinOp}{t:TypeId}{nk:NK}{u v:Value}{b:Bool}{p:Prop}{d:D}(he:zKa P op t nk b= .lit p d)(h:zP8 nk u v b)(ox oy:Operand):
    Yl P I w β (do eqGuard op t ox oy u v;binOp op t u v) d:=by
  have key:(P.underlying t).bind nkOf=Aa nk->(match op with| .eql=>Eff.lit True (.val (.bool b))| .neq=> .lit True (.val (.bool (!b)))|_=> .bad)= .lit p d->Yl P I w β (do eqGuard op t ox oy u v;binOp op t u v) d:=by
    intro hk he;split at he
    · simp only[Eff.lit.injEq]at he
      obtain⟨rfl,rfl⟩:=he;exact Yl.mk (λW=>by rw[Ae,zWb h,Ag,(nilBin hk h W).1]) (Rel.valI _)
    · simp only[Eff.lit.injEq]at he
      obtain⟨rfl,rfl⟩:=he;exact Yl.mk (λW=>by rw[Ae,zWb h,Ag,(nilBin hk h W).2]) (Rel.valI _)
    cases he
  unfold zKa at he;grind
theorem zVf{op:BinOp}{t:TypeId}{a:Option Addr}{n c:Nat}{p:Prop}{d:D}{ox oy:Operand}(he:aNil P op t n= .lit p d)(hp:p)(ha:a=Ac->n<=0):
    Yl P I w β (do eqGuard op t ox oy (.slice a n c) (.slice Ac 0 0);binOp op t (.slice a n c) (.slice Ac 0 0)) d:=by
  unfold aNil at he;split at he
  · rename_i e hu
    simp only[Eff.lit.injEq]at he;obtain⟨rfl,rfl⟩:=he;have hn:a.isNone=false:=by
      cases a<;>grind
    refine Yl.mk (λW=>?_) (Rel.valI _);have hg:(eqGuard .eql t ox oy (.slice a n c) (.slice Ac 0 0)).run P W= .ok () W:=by simp[eqGuard]
    rw[Ae,hg]
    have:=Lib.run_eql_slice_nil (P:=P) W t e a n c 0 0 hu
    rw[hn]at this;exact this
  · rename_i e hu
    simp only[Eff.lit.injEq]at he;obtain⟨rfl,rfl⟩:=he;have hn:a.isNone=false:=by
      cases a<;>grind
    refine Yl.mk (λW=>?_) (Rel.valI _);have hg:(eqGuard .neq t ox oy (.slice a n c) (.slice Ac 0 0)).run P W= .ok () W:=by simp[eqGuard]
    rw[Ae,hg]
    have:=(nilBin (P:=P) (t:=t) (nk:= .slice) (u:= .slice a n c) (v:= .slice Ac 0 0) (b:=Ad) (by rw[hu];rfl) ⟨a,n,c,rfl,rfl,hn.symm⟩ W).2
    exact this
  cases he
theorem yl_bin{op:BinOp}{t:TypeId}{x y:D}{u v:Value}{p:Prop}{d:D}(hx:Rel I w β x u)(hy:Rel I w β y v)(he:aBin P op t x y= .lit p d)(hp:p)(ox oy:Operand):
    Yl P I w β (do eqGuard op t ox oy u v;binOp op t u v) d:=by
  unfold aBin at he;split at he
  · rename_i k x k' y
    simp only[Rel]at hx hy;subst hx;subst hy;have hg:∀W:World,(eqGuard op t ox oy (.int k x) (.int k' y)).run P W= .ok () W:=λW=>by cases op<;>simp[eqGuard]
    have lift:Yl P I w β (binOp op t (.int k x) (.int k' y)) d->Yl P I w β (do eqGuard op t ox oy (.int k x) (.int k' y);binOp op t (.int k x) (.int k' y)) d:=by
      rintro⟨v,h1,h2⟩;exact⟨v,λW=>by rw[Ae,hg];exact h1 W,h2⟩
    refine lift ?_;split at he
    · simp only[Eff.lit.injEq]at he
      obtain⟨rfl,rfl⟩:=he;exact Yl.mk (λW=>by simp[binOp,Op.shift,Int.not_lt.2 hp]) (Rel.valI _)
    · simp only[Eff.lit.injEq]at he
      obtain⟨rfl,rfl⟩:=he;exact Yl.mk (λW=>by simp[binOp,Op.shift,Int.not_lt.2 hp]) (Rel.valI _)
    grind [yl_int]
  · simp only[Rel]at hx hy
    subst hx;subst hy;rename_i x y;obtain⟨v,h1,h2⟩:=yl_str (P:=P) (I:=I) (w:=w) (β:=β) he hp t;exact⟨v,λW=>by rw[Ae,show(eqGuard op t ox oy (.string x) (.string y)).run P W= .ok () W by cases op<;>simp[eqGuard]];exact h1 W,h2⟩
  · simp only[Rel]at hx hy
    subst hx;subst hy;rename_i x y;split at he
    · rename_i hu
      simp only[Eff.lit.injEq]at he;obtain⟨rfl,rfl⟩:=he;exact Yl.mk (λW=>by simp only[eqGuard,binOp,Ae,zZy hu];rfl) (Rel.valI _)
    · rename_i hu
      simp only[Eff.lit.injEq]at he;obtain⟨rfl,rfl⟩:=he;exact Yl.mk (λW=>by simp only[eqGuard,binOp,Ae,zZy hu];rfl) (Rel.valI _)
    cases he
  · simp only[Rel]at hx hy
    grind [zVf]
  · simp only[Rel]at hx hy
    subst hy;rcases hx with⟨rfl,_,rfl⟩|⟨rfl,_,_,a,c,rfl,_,_⟩|⟨b,c,cap,_,rfl,_⟩
    ·exact zVf he hp (λ_=>Af _)
    ·exact zVf he hp (λ_=>Af _)
    grind [zVf]
  · simp only[Rel]at hx hy
    subst hx;subst hy;exact zEi he ⟨_,_,_,rfl,rfl,rfl⟩ ox oy
  · simp only[Rel]at hx hy
    obtain⟨b,c,_,rfl⟩:=hx;subst hy;exact zEi he ⟨_,rfl,rfl,rfl⟩ ox oy
  · simp only[Rel]at hx hy
    obtain⟨b,c,rfl,_⟩:=hx;subst hy;exact zEi he ⟨_,rfl,rfl,rfl⟩ ox oy
  · simp only[Rel]at hx hy
    subst hx;subst hy;exact zEi he ⟨_,rfl,rfl,rfl⟩ ox oy
  · simp only[Rel]at hx hy
    obtain⟨b,c,_,rfl⟩:=hx;subst hy;exact zEi he ⟨_,rfl,rfl,rfl⟩ ox oy
  · simp only[Rel]at hx hy
    obtain⟨b,vs,rfl,_⟩:=hx;subst hy;exact zEi he ⟨_,rfl,rfl,rfl⟩ ox oy
  · simp only[Rel]at hx hy
    subst hx;subst hy;exact zEi he ⟨_,rfl,rfl,rfl⟩ ox oy
  · simp only[Rel]at hx hy
    obtain⟨vs,us,rfl,_⟩:=hx;subst hy;exact zEi he ⟨rfl, .inr ⟨_,_,_,rfl,rfl⟩⟩ ox oy
  · simp only[Rel]at hx hy
    subst hx;subst hy;exact zEi he ⟨rfl, .inl ⟨rfl,rfl⟩⟩ ox oy
  all_goals grind [yl_eqS]
theorem yl_field{t:TypeId}{f:Nat}{x:D}{u:Value}{p:Prop}{d:D}(hx:Rel I w β x u)(he:aField P t x f= .lit p d)(hp:p):Yl P I w β (Instr.field t u f) d:=by
  unfold aField at he;split at he
  · rename_i cs o ft hf
    obtain⟨fs,fl,h1,h2,rfl,rfl⟩:=zLy hf;simp only[Rel]at hx;obtain⟨vs,rfl,hv⟩:=hx;split at he
    · rename_i sz hs
      have hpt:=zSm (P:=P) fl.offset hs hv;have lift:Yl P I w β (part fl.type vs.toArray fl.offset) d->Yl P I w β (Instr.field t (.agg vs.toArray) f) d:=by
        rintro⟨v,k1,k2⟩;refine Yl.mk (v:=v) (λW=>?_) k2;simp[Instr.field,Ae,run_underlying h1,h2,asAgg,k1]
      grind
    cases he
  cases he
theorem zQa{t:TypeId}{f:Nat}{x:D}{u:Value}{p:Prop}{d:D}(hx:Rel I w β x u)(he:zJp P t x f= .lit p d):Yl P I w β (Instr.fieldAt t u f) d:=by
  unfold zJp at he;split at he
  · rename_i o ft hf
    obtain⟨fs,fl,h1,h2,rfl,rfl⟩:=zLy hf;have key:∀b o s (W:World),tySz P fl.type=Aa (s+1)->(Instr.fieldAt t (.pointer (Aa ⟨b,o,Ac⟩)) f).run P W= .ok (.pointer (Aa ⟨b,o+fl.offset,Ac⟩)) W:=by
      intro b o s W hs;simp[Instr.fieldAt,Ae,run_underlying h1,h2,Instr.sureAddr,fieldPlace,zCf hs,Addr.add_mid]
    split at he
    · rename_i hs
      simp only[Rel]at hx;obtain⟨b,c,hb,rfl⟩:=hx;simp only[Eff.lit.injEq]at he;obtain⟨rfl,rfl⟩:=he;exact Yl.mk (key _ _ _ · hs) (by simp only[Rel];exact⟨b,c,hb,rfl⟩)
    · rename_i hs
      simp only[Rel]at hx;obtain⟨b,o,rfl,hb⟩:=hx;simp only[Eff.lit.injEq]at he;obtain⟨rfl,rfl⟩:=he;exact Yl.mk (key _ _ _ · hs) (by simp only[Rel];exact⟨b,_,rfl,hb.drop _⟩)
    cases he
  cases he
theorem yl_index{t:TypeId}{x i:D}{u v:Value}{p:Prop}{d:D}(hx:Rel I w β x u)(hi:Rel I w β i v)(he:aIndex P t x i= .lit p d)(hp:p):Yl P I w β (Instr.index t u v) d:=by
  unfold aIndex at he;split at he
  · rename_i k i
    simp only[Rel]at hi;subst hi;split at he
    · rename_i n e cs hu
      simp only[Rel]at hx;obtain⟨vs,rfl,hv⟩:=hx;split at he
      · rename_i sz hs
        have hpt:=zSm (P:=P) (i.toNat*sz) hs hv;have lift:(0<=i/\i<n)->Yl P I w β (part e vs.toArray (i.toNat*sz)) d->Yl P I w β (Instr.index t (.agg vs.toArray) (.int k i)) d:=by
          rintro hb ⟨v,k1,k2⟩;refine Yl.mk (v:=v) (λW=>?_) k2;simp[Instr.index,asIntOf,Ae,run_underlying hu,hb,zCf hs,k1]
        grind
      cases he
    · rename_i s hu
      simp only[Rel]at hx;subst hx;simp only[Eff.lit.injEq]at he;obtain⟨rfl,rfl⟩:=he;have hlt:i.toNat<s.data.size:=by
        simp_all
      refine Yl.mk (λW=>?_) (Rel.valI _);have h1:s[i.toNat]?=Aa (s.data.getD i.toNat 0):=by
        have h2:i.toNat<s.size:=hlt;rw[getElem?_pos s i.toNat h2];simp only[Array.getD];rw[dif_pos hlt];rfl
      simp[Instr.index,asIntOf,Ae,run_underlying hu,hp.1,h1]
    cases he
  cases he
theorem zP9{t:TypeId}{x i:D}{u v:Value}{p:Prop}{d:D}(hx:Rel I w β x u)(hi:Rel I w β i v)(he:zJo P t x i= .lit p d)(hp:p):Yl P I w β (Instr.indexAt t u v) d:=by
  unfold zJo at he;split at he
  · rename_i k i
    simp only[Rel]at hi;subst hi;split at he
    · rename_i e hu
      have key:∀b o n cap sz (W:World),0<=i->i<(n:Nat)->tySz P e=Aa sz->(Instr.indexAt t (.slice (Aa ⟨b,o,Ac⟩) n cap) (.int k i)).run P W= .ok (.pointer (Aa ⟨b,o+i.toNat*sz,Ac⟩)) W:=by
        intro b o n cap sz W h1 h2 hs;simp[Instr.indexAt,asIntOf,Ae,run_underlying hu,h1,h2,zCf hs,Addr.add_mid]
      split at he
      · rename_i k' off n m wh sz hs
        simp only[Eff.lit.injEq]at he;obtain⟨rfl,rfl⟩:=he;simp only[Rel]at hx;rcases hx with⟨rfl,_⟩|⟨rfl,_⟩|⟨b,c,cap,hb,rfl,_⟩
        ·omega
        ·omega
        exact Yl.mk (key _ _ _ _ _ · hp.1 hp.2 hs) (by simp only[Rel];exact⟨b,c,hb,rfl⟩)
      · rename_i cs n sz hs
        simp only[Eff.lit.injEq]at he;obtain⟨rfl,rfl⟩:=he;simp only[Rel]at hx;obtain⟨ad,cap,rfl,h1,h2,h3,h4|⟨b,o,rfl,h4⟩⟩:=hx
        ·exact absurd h4 hp.2.2
        exact Yl.mk (key _ _ _ _ _ · hp.1 hp.2.1 hs) (by simp only[Rel];exact⟨b,_,rfl,h4.drop _⟩)
      cases he
    · rename_i n e hu
      have key:∀b o sz (W:World),0<=i->i<(n:Nat)->tySz P e=Aa sz->(Instr.indexAt t (.pointer (Aa ⟨b,o,Ac⟩)) (.int k i)).run P W= .ok (.pointer (Aa ⟨b,o+i.toNat*sz,Ac⟩)) W:=by
        intro b o sz W h1 h2 hs;simp[Instr.indexAt,asIntOf,Ae,run_underlying hu,h1,h2,zCf hs,Addr.add_mid,Instr.sureAddr]
      split at he
      · rename_i k' off sz hs
        simp only[Eff.lit.injEq]at he;obtain⟨rfl,rfl⟩:=he;simp only[Rel]at hx;obtain⟨b,c,hb,rfl⟩:=hx;exact Yl.mk (key _ _ _ · hp.1 hp.2 hs) (by simp only[Rel];exact⟨b,c,hb,rfl⟩)
      · rename_i cs sz hs
        simp only[Eff.lit.injEq]at he;obtain⟨rfl,rfl⟩:=he;simp only[Rel]at hx;obtain⟨b,o,rfl,hb⟩:=hx;exact Yl.mk (key _ _ _ · hp.1 hp.2 hs) (by simp only[Rel];exact⟨b,_,rfl,hb.drop _⟩)
      cases he
    cases he
  cases he
end
section
variable {P : Program} {T : Par} {I : Im} {w : World} {β : Be} {sl : List D} {st : List Bk} {a : Act}
theorem zDc{v:Value}{k:IntKind}{i:Int}(hv:v= .int k i){y:Nat}(h0:0<=i)(h1:i.toNat<=y)(code:BoundsCode)(W:World):(Instr.sliceBound v y code).run P W= .ok i.toNat W:=by
 subst hv;have:i<=(y:Int):=by omega
 simp[Instr.sliceBound,asIntOf,Ae,h0,this]
theorem zDi{x:Option D}{u:Option Value}{y:Nat}{p:Prop}{n:Nat}(hn:x.isSome=u.isSome)(hx:∀d v,x=Aa d->u=Aa v->Rel I w β d v)(h:zH2 x y=Aa (p,n))(hp:p):
  (x=Ac/\u=Ac/\n=y)\/∃k i,u=Aa (.int k i)/\0<=i/\n=i.toNat:=by
 unfold zH2 at h;split at h
 ·simp_all
 ·rename_i k i;cases u with
  |none=>simp at hn
  |some v=>
   have:=hx _ _ rfl rfl
   simp only[Rel]at this;grind
 cases h
theorem zCj{b:Bool}{len cap l h c:Nat}{lo hi mx:Option Value}(hlo:(lo=Ac/\l=0)\/∃k i,lo=Aa (.int k i)/\0<=i/\l=i.toNat)
  (hhi:(hi=Ac/\h=len/\mx=Ac)\/∃k i,hi=Aa (.int k i)/\0<=i/\h=i.toNat)
  (hmx:(mx=Ac/\c=cap)\/∃k i,mx=Aa (.int k i)/\0<=i/\h=i.toNat/\c=h)(h1:l<=h)(h2:h<=cap)(W:World):
  (Instr.sliceBounds b len cap lo hi mx).run P W= .ok (l,h,c) W:=by
 rcases hmx with⟨rfl,rfl⟩|⟨km,im,rfl,hm1,hm2,rfl⟩
 ·rcases hhi with⟨rfl,rfl,_⟩|⟨kh,ih,rfl,hh1,rfl⟩
  ·rcases hlo with⟨rfl,rfl⟩|⟨kl,il,rfl,hl1,rfl⟩
   ·simp[Instr.sliceBounds]
   simp[Instr.sliceBounds,Ae,zDc rfl hl1 h1]
  rcases hlo with⟨rfl,rfl⟩|⟨kl,il,rfl,hl1,rfl⟩
  ·simp[Instr.sliceBounds,Ae,zDc rfl hh1 h2]
  simp[Instr.sliceBounds,Ae,zDc rfl hh1 h2,zDc rfl hl1 h1]
 rcases hhi with⟨_,_,h3⟩|⟨kh,ih,rfl,hh1,rfl⟩
 ·cases h3
 have e1:=λW=>zDc (P:=P) (v:= .int km im) rfl hm1 (y:=cap) (by omega) (if b then .slice3Acap else .slice3Alen) W;have e2:=λW=>zDc (P:=P) (v:= .int kh ih) rfl hh1 (y:=im.toNat) (by omega) .slice3B W;rcases hlo with⟨rfl,rfl⟩|⟨kl,il,rfl,hl1,rfl⟩
 ·simp[Instr.sliceBounds,Ae,e1,e2,hm2]
 have e3:=λW=>zDc (P:=P) (v:= .int kl il) rfl hl1 (y:=im.toNat) (by omega) .slice3C W;simp[Instr.sliceBounds,Ae,e1,e2,e3,hm2]
theorem yl_slice{t:TypeId}{x:D}{u:Value}{lo hi mx:Option D}{lv hv mv:Option Value}{p:Prop}{d:D}(hx:Rel I w β x u)
  (n1:lo.isSome=lv.isSome)(n2:hi.isSome=hv.isSome)(n3:mx.isSome=mv.isSome)
  (r1:∀d v,lo=Aa d->lv=Aa v->Rel I w β d v)(r2:∀d v,hi=Aa d->hv=Aa v->Rel I w β d v)(r3:∀d v,mx=Aa d->mv=Aa v->Rel I w β d v)
  (hnm:mx.isSome=Ab->hi.isSome=Ab)(he:aSlice P t x lo hi mx= .lit p d)(hp:p):Yl P I w β (Instr.sliceAt t u lv hv mv) d:=by
 unfold aSlice at he;split at he
 ·cases he
 rename_i pl l hlo;have L:=λhpl=>zDi n1 r1 hlo hpl;have L':pl->(lv=Ac/\l=0)\/∃k i,lv=Aa (.int k i)/\0<=i/\l=i.toNat:=λhpl=>(L hpl).imp (λh=>⟨h.2.1,h.2.2⟩) id;split at he
 ·rename_i s hu;simp only[Rel]at hx;subst hx;split at he
  ·rename_i ph h hhi;simp only[Eff.lit.injEq]at he;obtain⟨rfl,rfl⟩:=he;obtain⟨hp1,hp2,hp3,hp4⟩:=hp;have hm:mv=none:=by cases mv<;>simp_all
   subst hm;have H:=zDi n2 r2 hhi hp2;have H':(hv=Ac/\h=s.size/\(Ac:Option Value)=Ac)\/∃k i,hv=Aa (.int k i)/\0<=i/\h=i.toNat:=H.imp (λh=>⟨h.2.1,h.2.2,rfl⟩) id;refine Yl.mk (λW=>?_) (Rel.valI _);have hb:=zCj (P:=P) (b:=Ad) (cap:=s.size) (L' hp1) H' (.inl ⟨rfl,rfl⟩) hp3 hp4 W;simp[Instr.sliceAt,Instr.slice,Ae,run_underlying hu,hb]
  cases he
 ·rename_i e k off n m wh hu;split at he
  ·rename_i ph h sz hhi hs;split at he
   ·rename_i pm c hmx;simp only[Eff.lit.injEq]at he;obtain⟨rfl,rfl⟩:=he;obtain⟨hp1,hp2,hp3,hp4,hp5,hp6,rfl⟩:=hp;have H:=zDi n2 r2 hhi hp2;have M:=zDi n3 r3 hmx hp3;have key:∀(ad:Option Addr)(cap:Nat)(W:World),n<=cap->∃c',(Instr.sliceAt t (.slice ad n cap) lv hv mv).run P W= .ok (.slice (if c'=l then ad else ad.map (·.add (l*sz))) (c-l) (c'-l)) W/\c<=c'/\c'<=cap/\(mx=Ac->c'=cap):=by
     intro ad cap W hcap;have H':(hv=Ac/\c=n/\mv=Ac)\/∃k i,hv=Aa (.int k i)/\0<=i/\c=i.toNat:=by
      grind
     rcases M with⟨m1,m2,m3⟩|⟨km,im,m1,m2,m3⟩
     ·have hb:=zCj (P:=P) (b:=Ab) (cap:=cap) (c:=cap) (L' hp1) H' (.inl ⟨m2,rfl⟩) hp5 (by omega) W;exact⟨cap,by simp[Instr.sliceAt,Instr.slice,Ae,run_underlying hu,hb,zCf hs],by omega,by omega,λ_=>rfl⟩
     have hb:=zCj (P:=P) (b:=Ab) (cap:=cap) (c:=c) (L' hp1) H' (.inr ⟨km,im,m1,m2,m3,rfl⟩) hp5 (by omega) W;refine⟨c,by simp[Instr.sliceAt,Instr.slice,Ae,run_underlying hu,hb,zCf hs],by omega,by omega,λhm=>?_⟩;rw[hm,m1]at n3;simp at n3
    have key2:∀(ad:Option Addr)(cap:Nat),n<=cap->∃c',(∀W,(Instr.sliceAt t (.slice ad n cap) lv hv mv).run P W= .ok (.slice (if c'=l then ad else ad.map (·.add (l*sz))) (c-l) (c'-l)) W)/\c<=c'/\c'<=cap/\(mx=Ac->c'=cap):=by
     intro ad cap hcap;obtain⟨c1,_,h2,h3,h4⟩:=key ad cap w hcap;rcases M with⟨m1,m2,m3⟩|⟨km,im,m1,m2,m3⟩
     ·refine⟨cap,λW=>?_,by omega,by omega,λ_=>rfl⟩;obtain⟨c2,k1,_,_,k4⟩:=key ad cap W hcap;rw[k1,k4 m1]
     refine⟨c,λW=>?_,by omega,by omega,λhm=>?_⟩
     ·have H':(hv=Ac/\c=n/\mv=Ac)\/∃k i,hv=Aa (.int k i)/\0<=i/\c=i.toNat:=by
       grind
      have hb:=zCj (P:=P) (b:=Ab) (cap:=cap) (c:=c) (L' hp1) H' (.inr ⟨km,im,m1,m2,m3,rfl⟩) hp5 (by omega) W;simp[Instr.sliceAt,Instr.slice,Ae,run_underlying hu,hb,zCf hs]
     grind
    simp only[Rel]at hx;rcases hx with⟨rfl,_,rfl⟩|⟨rfl,_,rfl,ad,cc,rfl,hc1,hc2⟩|⟨b,c0,cap,hb,rfl,h1,h2,h3⟩
    ·obtain⟨c',k1,k2,k3,k4⟩:=key2 Ac 0 (by omega);have e1:c=0:=by omega
     have e2:l=0:=by omega
     have e3:c'=0:=by omega
     subst e1;subst e2;subst e3;exact Yl.mk k1 (by simp only[Rel];exact .inl (by simp))
    ·obtain⟨c',k1,k2,k3,k4⟩:=key2 ad cc (by omega);have e1:c=0:=by omega
     have e2:l=0:=by omega
     subst e1;subst e2;refine Yl.mk k1 ?_;simp only[Rel];refine .inr (.inl ⟨by simp,by simp,by simp,_,_,rfl,by omega,λh=>?_⟩);rcases Nat.eq_zero_or_pos c' with h0|h0
     ·omega
     rw[if_neg (by omega)]at h;simp_all
    obtain⟨c',k1,k2,k3,k4⟩:=key2 (Aa ⟨b,off,Ac⟩) cap h1;refine Yl.mk k1 ?_;simp only[Rel];by_cases hcl:c'=l
    ·rw[if_pos hcl];by_cases hwh:(wh&&mx.isNone&&lo.isNone)=Ab
     ·simp only[Av,Bq]at hwh;obtain⟨⟨w1,w2⟩,w3⟩:=hwh;obtain⟨rfl,rfl⟩:=h3 w1;have e2:l=0:=by
       grind
      refine .inr (.inr ⟨b,cap,c'-l,hb,by simp[e2],by omega,by omega,λ_=>⟨by simp[e2],?_⟩⟩)
      have:=k4 w2
      omega
     grind
    rw[if_neg hcl];refine .inr (.inr ⟨b,c0,c'-l,hb,by simp[Addr.add_mid],by omega,by omega,λhwh=>?_⟩);simp_all
   cases he
  cases he
 ·rename_i e x hu hnos;split at he
  ·rename_i cs n sz hrow hs;split at he
   ·rename_i ph h hhi;split at he
    ·rename_i pm c hmx;simp only[Eff.lit.injEq]at he;obtain⟨rfl,rfl⟩:=he;obtain⟨hp1,hp2,hp3,hp4,hp5,hp6,rfl⟩:=hp;have H:=zDi n2 r2 hhi hp2;have M:=zDi n3 r3 hmx hp3;have hx':∃ad cap,u= .slice ad n cap/\n<=cap/\cap<=maxLen/\(ad=Ac->cap=0)/\(cs=[]\/∃b o,ad=Aa ⟨b,o,Ac⟩/\RelC I w cs b o):=by
      unfold asRow at hrow;split at hrow
      ·cases hrow;simpa only[Rel]using hx
      ·cases hrow;simp only[Rel]at hx;grind
      cases hrow
     obtain⟨ad,cap,rfl,h1,h2,h3,h4⟩:=hx';have H':(hv=Ac/\c=n/\mv=Ac)\/∃k i,hv=Aa (.int k i)/\0<=i/\c=i.toNat:=by
      grind
     have fin:∀c',c<=c'->c'<=cap->Rel I w β (.row ((cs.drop (l*sz)).take ((c-l)*sz)) (c-l)) (.slice (if c'=l then ad else ad.map (·.add (l*sz))) (c-l) (c'-l)):=by
      intro c' k2 k3;simp only[Rel];refine⟨_,_,rfl,by omega,by omega,λh=>?_,?_⟩
      ·by_cases hcl:c'=l;all_goals simp_all
      by_cases hcl:c'=l
      ·simp_all
      rw[if_neg hcl];rcases h4 with h4|⟨b,o,rfl,h4⟩
      ·left;simp[h4]
      exact .inr ⟨b,o+l*sz,by simp[Addr.add_mid],(h4.drop _).take _⟩
     rcases M with⟨m1,m2,m3⟩|⟨km,im,m1,m2,m3⟩
     ·refine Yl.mk (λW=>?_) (fin cap (by omega) (Af _));have hb:=zCj (P:=P) (b:=Ab) (cap:=cap) (c:=cap) (L' hp1) H' (.inl ⟨m2,rfl⟩) hp5 (by omega) W;simp[Instr.sliceAt,Instr.slice,Ae,run_underlying hu,hb,zCf hs]
     refine Yl.mk (λW=>?_) (fin c (Af _) (by omega));have hb:=zCj (P:=P) (b:=Ab) (cap:=cap) (c:=c) (L' hp1) H' (.inr ⟨km,im,m1,m2,m3,rfl⟩) hp5 (by omega) W;simp[Instr.sliceAt,Instr.slice,Ae,run_underlying hu,hb,zCf hs]
    cases he
   cases he
  cases he
 ·rename_i n e k off hu;split at he
  ·rename_i sz ph h hs hhi;simp only[Eff.lit.injEq]at he;obtain⟨rfl,rfl⟩:=he;obtain⟨hp1,hp2,hp3,hp4,hp5⟩:=hp;have hl0:lv=none:=by cases lv<;>simp_all
   have hm0:mv=none:=by cases mv<;>simp_all
   subst hl0;subst hm0;simp only[Rel]at hx;obtain⟨b,c,hb,rfl⟩:=hx;have H:=zDi n2 r2 hhi hp2;have H':(hv=Ac/\h=n/\(Ac:Option Value)=Ac)\/∃k i,hv=Aa (.int k i)/\0<=i/\h=i.toNat:=H.imp (λh=>⟨h.2.1,h.2.2,rfl⟩) id;have e1:(if n=0 then(⟨b,off,Ac⟩:Addr)else Addr.add ⟨b,off,Ac⟩ (0*sz))=⟨b,off,Ac⟩:=by
    split
    ·rfl
    rw[Addr.add_mid];simp
   refine Yl.mk (v:= .slice (Aa ⟨b,off,Ac⟩) h n) (λW=>?_) (by simp only[Rel];exact .inr (.inr ⟨b,c,n,hb,rfl,hp4,hp5,λh=>by cases h⟩));have hbd:=zCj (P:=P) (b:=Ad) (cap:=n) (l:=0) (.inl ⟨rfl,rfl⟩) H' (.inl ⟨rfl,rfl⟩) (AI _) hp4 W;simp only[Instr.sliceAt,Ae,run_underlying hu,Ag,Instr.sureAddr,An,hbd,zCf hs];rw[e1];rfl
  cases he
 cases he
end
section
variable {P : Program} {T : Par} {I : Im} {w : World} {β : Be} {sl : List D} {st : List Bk} {a : Act}
theorem yl_len{t ty:TypeId}{x:D}{u:Value}{ts:Array TypeId}{us:Array Value}{p:Prop}{d:D}(hx:Rel I w β x u)(ht:ts[0]?=Aa t)(hu:us[0]?=Aa u)(he:aLen P t x= .lit p d):Yl P I w β (Builtin.len_ ts ty us) d:=by
 unfold aLen at he;split at he
 ·rename_i h1;simp only[Rel]at hx;obtain⟨ad,cap,rfl,_⟩:=hx;simp only[Eff.lit.injEq]at he;obtain⟨rfl,rfl⟩:=he;exact Yl.mk (λW=>by simp[Builtin.len_,ht,hu,Ae,run_underlying h1,goInt]) (Rel.valI _)
 ·rename_i h1;simp only[Eff.lit.injEq]at he;obtain⟨rfl,rfl⟩:=he;simp only[Rel]at hx;rcases hx with⟨rfl,_,rfl⟩|⟨rfl,_,_,_,_,rfl,_⟩|⟨_,_,_,_,rfl,_⟩<;>
  exact Yl.mk (λW=>by simp[Builtin.len_,ht,hu,Ae,run_underlying h1,goInt]) (Rel.valI _)
 ·rename_i h1;simp only[Rel]at hx;subst hx;simp only[Eff.lit.injEq]at he;obtain⟨rfl,rfl⟩:=he;exact Yl.mk (λW=>by simp[Builtin.len_,ht,hu,Ae,run_underlying h1,goInt]) (Rel.valI _)
 ·rename_i h1;simp only[Rel]at hx;subst hx;simp only[Eff.lit.injEq]at he;obtain⟨rfl,rfl⟩:=he;exact Yl.mk (λW=>by simp[Builtin.len_,ht,hu,Ae,run_underlying h1,goInt]) (Rel.valI _)
 ·rename_i h1;simp only[Eff.lit.injEq]at he;obtain⟨rfl,rfl⟩:=he;exact Yl.mk (λW=>by simp[Builtin.len_,ht,hu,Ae,run_underlying h1,goInt]) (Rel.valI _)
 ·rename_i arr h1;split at he
  ·rename_i n e h2;simp only[Eff.lit.injEq]at he;obtain⟨rfl,rfl⟩:=he;exact Yl.mk (λW=>by simp[Builtin.len_,ht,hu,Ae,run_underlying h1,run_underlying h2,goInt]) (Rel.valI _)
  cases he
 cases he
theorem zCu{t:TypeId}{z:List D}(h:zH3 P t=Aa z):∃i v,P.info? t=Aa i/\i.zero=Aa v/\RelL I w β z v.cells.toList/\z=v.cells.toList.map .val/\∀u∈v.cells.toList,u.oneCell'=true:=by
 unfold zH3 at h;split at h
 ·cases h
 rename_i i hi;split at h
 ·cases h
 rename_i v hz;split at h
 ·rename_i hall;cases h;have h1:∀u∈v.cells.toList,u.oneCell'=true:=λu hu=>AE.1 hall u hu;refine⟨i,v,hi,hz,?_,rfl,h1⟩;generalize v.cells.toList=l at h1;induction l with
  |nil=>simp only[AD,RelL]
  |cons u l ih=>simp only[Au,RelL];exact⟨u,l,rfl,h1 u (AM ..),Rel.valI u,ih (λx hx=>h1 x (AS _ hx))⟩
 cases h
theorem zEr{t:TypeId}{i:TypeInfo}{v:Value}(h1:P.info? t=Aa i)(h2:i.zero=Aa v)(W:World):(zeroValue t).run P W= .ok v W:=by
 simp[zeroValue,typeInfo,h1,h2]
theorem zHc(h:RelT I w β sl a.tmps.toList)(ps:List (Nat×Operand)):∀(j:Nat) i d i' v,(ps.map λp=>(p.1,evD sl p.2))[j]?=Aa (i,d)->(ps.map λp=>(p.1,a.eval p.2))[j]?=Aa (i',v)->i'=i/\Rel I w β d v:=by
 intro j i d i' v h1 h2;grind [zAi]
theorem zJf{fs:List Field}(h:fs.all (λf=>(tySz P f.type).isSome)=Ab)(W:World):∃l:List (Nat×Nat),(fs.mapM (m:=Sem) λf=>do pure (f.offset,<-sizeOf f.type)).run P W= .ok l W/\l.length=fs.length/\
  ∀(i:Nat) f s,fs[i]?=Aa f->tySz P f.type=Aa s->l[i]?=Aa (f.offset,s):=by
 induction fs with
 |nil=>exact⟨[],by simp,rfl,by simp⟩
 | cons f fs ih=>
  simp only[List.all_cons,Av,Bd]at h;obtain⟨⟨s,hs⟩,h2⟩:=h;obtain⟨l,k1,k2,k3⟩:=ih (by simpa using h2);refine⟨(f.offset,s)::l,?_,by simp[k2],λi g s' hg hs'=>?_⟩
  ·have:(do pure (f.offset,<-sizeOf f.type):Sem (Nat×Nat)).run P W= .ok (f.offset,s) W:=by simp[Ae,zCf hs]
   rw[List.mapM_cons,Ae,this];simp_all
  grind
theorem zBz{α γ:Type}(fs:Array α)(g:α->Sem γ)(l:List γ)(W:World)(h:(fs.toList.mapM g).run P W= .ok l W):(fs.mapM g).run P W= .ok l.toArray W:=by
 simp_all [Array.mapM_eq_mapM_toList]
theorem yl_build(h:RelT I w β sl a.tmps.toList){t:TypeId}{parts:Array (Nat×Operand)}{p:Prop}{d:D}(he:aBuild P t (parts.toList.map λp=>(p.1,evD sl p.2))= .lit p d)(hp:p):
  Yl P I w β (Instr.build t (parts.map λ(i,x)=>(i,a.eval x))) d:=by
 have hlist:(parts.map λ(i,x)=>(i,a.eval x)).toList=parts.toList.map λp=>(p.1,a.eval p.2):=by simp
 unfold aBuild at he;split at he
 ·rename_i z fs hz hu;obtain⟨i,v,h1,h2,h3,h4,h5⟩:=zCu (I:=I) (w:=w) (β:=β) hz;split at he
  ·rename_i q cs hf;simp only[Eff.lit.injEq]at he;obtain⟨rfl,rfl⟩:=he;have hfin:∀W:World,∃ys,RelL I w β cs ys/\(Instr.build t (parts.map λ(i,x)=>(i,a.eval x))).run P W= .ok (.agg ys.toArray) W/\∀W':World,(Instr.build t (parts.map λ(i,x)=>(i,a.eval x))).run P W'= .ok (.agg ys.toArray) W':=by
    intro W;have key:∀W:World,∃l:List (Nat×Nat),(fs.mapM (m:=Sem) λf=>do pure (f.offset,<-sizeOf f.type)).run P W= .ok l.toArray W/\∀(i:Nat) f s,fs[i]?=Aa f->tySz P f.type=Aa s->l[i]?=Aa (f.offset,s):=by
     intro W;obtain⟨l,k1,_,k3⟩:=zJf (P:=P) (fs:=fs.toList) (by simpa using hp.2) W;simp_all [zBz]
    obtain⟨l,l1,l2⟩:=key W;obtain⟨ys,k1,k2⟩:=zGa (I:=I) (w:=w) (β:=β) (place':=λi=>l.toArray[i]?) (λi x hx=>by
     cases hfi:fs[i]? with
     |none=>simp[hfi]at hx
     |some f=>
      simp only[hfi,Bf]at hx;cases hs:tySz P f.type with
      |none=>simp[hs]at hx
      |some s=>simp[hs]at hx;subst hx;simpa using l2 i f s hfi hs) _ (parts.toList.map λp=>(p.1,a.eval p.2)) z v.cells.toList q cs (by simp) (zHc h parts.toList) h3 hf hp.1
    have all:∀W',(fs.mapM (m:=Sem) λf=>do pure (f.offset,<-sizeOf f.type)).run P W'= .ok l.toArray W':=by
     intro W';obtain⟨l',l1',l2'⟩:=key W';have:l'=l:=by
      obtain⟨m,m1,m2,m3⟩:=zJf (P:=P) (fs:=fs.toList) (by simpa using hp.2) W;obtain⟨m',m1',m2',m3'⟩:=zJf (P:=P) (fs:=fs.toList) (by simpa using hp.2) W';have e1:l=m:=by
       simp_all [zBz]
      have e2:l'=m':=by
       simp_all [zBz]
      rw[e1,e2];apply List.ext_getElem (by rw[m2,m2']);intro i hi hi';have hil:i<fs.toList.length:=by omega
      have hsm:(tySz P fs.toList[i].type).isSome=true:=by
       grind
      obtain⟨s,hs⟩:=Bd.1 hsm;have a1:=m3 i _ s (Aj hil) hs;grind
     rw[l1',this]
    have run:∀W':World,(Instr.build t (parts.map λ(i,x)=>(i,a.eval x))).run P W'= .ok (.agg ys.toArray) W':=by
     intro W';simp only[Instr.build,Ae,zEr h1 h2,Ag,run_underlying hu,all W',hlist];simp_all
    exact⟨ys,k2,run W,run⟩
   obtain⟨ys,k1,_,k3⟩:=hfin w;exact Yl.mk k3 (by simp only[Rel];exact⟨ys,rfl,k1⟩)
  cases he
 ·rename_i z n e hz hu;obtain⟨i,v,h1,h2,h3,h4,h5⟩:=zCu (I:=I) (w:=w) (β:=β) hz;split at he
  ·rename_i sz hs;split at he
   ·rename_i q cs hf;simp only[Eff.lit.injEq]at he;obtain⟨rfl,rfl⟩:=he;obtain⟨ys,k1,k2⟩:=zGa (I:=I) (w:=w) (β:=β) (place':=λi=>Aa (i*sz,sz)) (λi x hx=>hx) _ (parts.toList.map λp=>(p.1,a.eval p.2)) z v.cells.toList q cs (by simp) (zHc h parts.toList) h3 hf hp;refine Yl.mk (v:= .agg ys.toArray) (λW'=>?_) (by simp only[Rel];exact⟨ys,rfl,k2⟩);simp only[Instr.build,Ae,zEr h1 h2,Ag,run_underlying hu,zCf hs,hlist];simp_all
   cases he
  cases he
 cases he
theorem zLn(h:RelT I w β sl a.tmps.toList)(o:Oper)(hl:zY T o.op=Ab){p:Prop}{d:D}(he:aeff P T o.op o.type (evD sl) st= .lit p d)(hp:p):
  ∃v,(∀W:World,(execOp a.eval o).run P W= .ok (.value v) W)/\Rel I w β d v:=by
 have up:∀s:Sem Value,Yl P I w β s d->∃v,(∀W:World,(do pure (.value (<-s)):Sem Next).run P W= .ok (.value v) W)/\Rel I w β d v:=by
  rintro s ⟨v,h1,h2⟩;simp_all
 unfold execOp;generalize ho:o.op=op at hl he;cases op with
 |move x=>simp only[aeff,Eff.lit.injEq]at he;obtain⟨rfl,rfl⟩:=he;exact⟨a.eval x,λW=>rfl,zAi h x⟩
 |assign x=>simp only[aeff,Eff.lit.injEq]at he;obtain⟨rfl,rfl⟩:=he;exact⟨a.eval x,λW=>rfl,zAi h x⟩
 | pick c x y=>
  simp only[aeff]at he;split at he
  ·rename_i t ht;have hc:=zAi h c;rw[ht]at hc;simp only[Rel]at hc;simp only[Eff.lit.injEq]at he;obtain⟨rfl,rfl⟩:=he;refine⟨if t then a.eval x else a.eval y,λW=>by simp[hc,asBool],?_⟩;grind [zAi]
  cases he
 |build t parts=>exact up _ (yl_build h he hp)
 | nilCheck x=>
  simp only[aeff]at he;have hx:=zAi h x;split at he
  ·rename_i cs hc;rw[hc]at hx;have hx':=hx;simp only[Rel]at hx;obtain⟨b,o,hv,_⟩:=hx;simp_all
  ·rename_i hc;rw[hc]at hx;have hx':=hx;simp only[Rel]at hx;obtain⟨b,o,_,hv⟩:=hx;simp_all
  ·rename_i hc;rw[hc]at hx;have hx':=hx;simp only[Rel]at hx;obtain⟨u,hv,_⟩:=hx;simp_all
  ·rename_i hc;rw[hc]at hx;have hx':=hx;simp only[Rel]at hx;obtain⟨u,u',hv,_⟩:=hx;simp_all
  ·rename_i nm ty dd xs ys hc;rw[hc]at hx;have hx':=hx;simp only[Rel,RelT]at hx;obtain⟨vs,us,hv,⟨v0,vs',rfl,⟨u0,rfl,_⟩,_⟩,_⟩:=hx;split at he
   ·rename_i hm;obtain⟨ff,hm⟩:=Bd.1 hm;simp only[Eff.lit.injEq]at he;obtain⟨rfl,rfl⟩:=he;obtain⟨n,hn⟩:∃n,P.types.size+Made.depth=n+1:=⟨P.types.size+Made.depth-1,by have:Made.depth=100:=rfl;omega⟩;refine⟨_,λW=>?_,hv▸hx'⟩;simp only[hv];have h0:((Value.iface ty u0::vs').toArray)[0]?=Aa (.iface ty u0):=by simp
    simp only[h0,Ae];rw[show(program:Sem Program).run P W= .ok P W from rfl];simp only[Ag,hn,zRa hm n u0 W];simp
   cases he
  cases he
 |binOp op t x y t'=>exact up _ (yl_bin (zAi h x) (zAi h y) he hp x y)
 |unOp op t x=>exact up _ (yl_un (zAi h x) he)
 |convert s t x=>
  simp only[zY,A3]at hl;simp only[aeff,hl,Al,if_false]at he;exact up _ (yl_conv (zAi h x) he)
 | makeInterface t x=>
  simp only[aeff]at he;split at he
  ·cases he
  ·rename_i ds hu hds;simp only[Eff.lit.injEq]at he;obtain⟨rfl,rfl⟩:=he;refine up _ (Yl.mk (v:= .iface t (a.eval x)) (λW=>?_) (by simp only[Rel];exact⟨_,rfl,zAi h x⟩));simp only[Instr.makeInterface,Ae,run_underlying hds,Ag];rfl
  cases he
 |makeFunc fn x y=>
  simp only[aeff,Eff.lit.injEq]at he;obtain⟨rfl,rfl⟩:=he;refine up _ (Yl.mk (v:= .func fn (x.map a.eval) (y.map a.eval)) (λW=>rfl) ?_);simp only[Rel];grind [zLz,AT]
 | slice t x lo hi mx=>
  simp only[aeff]at he;split at he
  ·cases he
  rename_i hmx;refine up _ (yl_slice (zAi h x) (by simp) (by simp) (by simp) ?_ ?_ ?_ (by cases hi<;>cases mx<;>simp_all) he hp);all_goals
   intro d v h1 h2;simp only[As]at h1 h2;obtain⟨y,hy,rfl⟩:=h1;obtain⟨y',hy',rfl⟩:=h2;rw[hy]at hy';cases hy';exact zAi h y
 |fieldAddr t x f=>exact up _ (zQa (zAi h x) he)
 |field t x f=>exact up _ (yl_field (zAi h x) he hp)
 |indexAddr t x i=>exact up _ (zP9 (zAi h x) (zAi h i) he hp)
 |index t x i=>exact up _ (yl_index (zAi h x) (zAi h i) he hp)
 | extract x i=>
  simp only[aeff]at he;split at he
  ·rename_i cs hc;have hx:=zAi h x;rw[hc]at hx;simp only[Rel]at hx;obtain⟨vs,hv,hr⟩:=hx;simp only[Eff.lit.injEq]at he;obtain⟨rfl,rfl⟩:=he;obtain⟨v,h1,h2⟩:=hr.get i cs[i] (by simp[hp]);refine up _ (Yl.mk (v:=v) (λW=>by simp[Instr.extract,hv,h1]) ?_);grind
  cases he
 | call c=>
  obtain⟨callee,args,ts⟩:=c;cases callee with
  |value f=>simp[zY]at hl
  |invoke r n=>simp[zY]at hl
  | builtin b=>
   cases b<;>simp only[zY,Al,A3]at hl
   ·simp only[aeff,hl,Al,if_false]at he;split at he
    ·rename_i t _ x _ h1 h2;obtain⟨v,k1,k2⟩:=yl_len (P:=P) (ty:=o.type) (ts:=ts) (us:=args.map a.eval) (zAi h x) (by rw[<-AN,h1];rfl) (by rw[<-AN,AT,h2];rfl) he;exact⟨v,λW=>by simp only[resolve,Ae,An,Ag,invoke,builtin,k1],k2⟩
    cases he
   ·simp only[aeff]at he;split at he
    ·rename_i k x k' y hm;have hr:=zLz h args.toList;rw[hm]at hr;simp only[RelT,Rel]at hr;obtain⟨_,_,e1,rfl,_,_,rfl,rfl,rfl⟩:=hr;simp only[Eff.lit.injEq]at he;obtain⟨rfl,rfl⟩:=he;refine⟨_,λW=>?_,Rel.valI _⟩;simp[resolve,Ae,invoke,builtin,Builtin.max_,e1,Builtin.max2]
    cases he
   simp only[aeff]at he;split at he
   ·rename_i k x k' y hm;have hr:=zLz h args.toList;rw[hm]at hr;simp only[RelT,Rel]at hr;obtain⟨_,_,e1,rfl,_,_,rfl,rfl,rfl⟩:=hr;simp only[Eff.lit.injEq]at he;obtain⟨rfl,rfl⟩:=he;refine⟨_,λW=>?_,Rel.valI _⟩;simp[resolve,Ae,invoke,builtin,Builtin.min_,e1,Builtin.min2]
   cases he
 |_=>simp[zY]at hl
end
section
variable {P : Program} {T : Par} {I I' : Im} {w w' : World} {β β' : Be} {sl : List D} {st : List Bk} {a : Act}
theorem Fix.ext(h:Ext w w')(hi:∀b o,I b o->I' b o):Fix I w I' w':=λb o h1=>⟨hi b o h1,λv hv=>h.cell hv,λks vs hm=>hm.of_heap (Below.block h.1 b hm.lt)⟩
theorem OwnC.cells_get{b c:Nat}{e:Bk}(h:OwnC I w β b c e){j:Nat}{d:D}(hd:e.cells[j]?=Aa d):∃v,w.cell? ⟨b,j,Ac⟩=Aa v/\v.oneCell'=Ab/\Rel I w (if e.nob then noB else β) d v:=by
 obtain⟨cur,h1,h2,h3,_⟩:=h;obtain⟨v,k1,k2,k3⟩:=h3.get j d hd;rw[Ar]at k1;split at k1
 ·exact⟨v,by rw[cell_of_row w b j cur.toArray e.ty (0,0) h1];simpa using k1,k2,k3⟩
 cases k1
theorem OwnRel.mono{b c:Nat}{e:Bk}(h:OwnRel I w β b c e)(hh:w'.heap[b]?=w.heap[b]?)(hf:Fix I w I' w')(hb:BeLe β β'):OwnRel I' w' β' b c e:=by
 rcases e.kd.cases with hk|⟨ks,hk⟩
 ·obtain⟨cur,h1,h2,h3,h4⟩:=h.c hk;refine OwnC.r ⟨cur,hh.trans h1,h2,?_,h4⟩ hk;cases ha:e.nob<;>simp only[ha,if_true,if_false,Al]at h3⊢
  ·grind [RelL.mono]
  exact RelL.mono hf noB noB (BeLe.refl _) _ _ h3
 obtain⟨vs,h1,h2⟩:=h.m hk;refine OwnM.r ⟨vs,h1.of_heap hh,?_⟩ hk;cases ha:e.nob<;>simp only[ha,if_true,if_false,Al]at h2⊢
 ·grind [RelT.mono]
 exact RelT.mono hf noB noB (BeLe.refl _) _ _ h2
theorem OwnRel.lt{b c:Nat}{e:Bk}(h:OwnRel I w β b c e):b<w.heap.size:=by
 rcases e.kd.cases with hk|⟨ks,hk⟩
 ·obtain⟨cur,h1,_⟩:=h.c hk;exact lt_of_block h1
 obtain⟨vs,h1,_⟩:=h.m hk;exact h1.lt
theorem OwnRel.like{b c:Nat}{e e':Bk}(h:OwnRel I w β b c e)(h1:e'.cells=e.cells)(h2:e'.ty=e.ty)(h3:e'.sz=e.sz)(h4:e'.arr=e.arr)(h5:e'.kd=e.kd):OwnRel I w β b c e':=by
 have hn:e'.nob=e.nob:=by unfold Bk.nob;rw[h4,h5]
 rcases e.kd.cases with hk|⟨ks,hk⟩
 ·obtain⟨cur,k1,k2,k3,k4⟩:=h.c hk;exact OwnC.r ⟨cur,by rw[h2];exact k1,by rw[h1];exact k2,by rw[h1,hn];exact k3,by rw[h3,h4];exact k4⟩ (by rw[h5];exact hk)
 obtain⟨vs,k1,k2⟩:=h.m hk;exact OwnM.r ⟨vs,k1,by rw[h1,hn];exact k2⟩ (by rw[h5];exact hk)
def SRw(β:Be)(I:Im)(w:World)(st:List Bk):Prop:=∀k b c (e:Bk),β k=Aa (b,c)->st[k]?=Aa e->OwnRel I w β b c e
theorem SR.weak(h:SR β I w st):SRw β I w st:=λk b c e hk he=>by
 obtain⟨e',h1,h2⟩:=h k b c hk;rw[he]at h1;cases h1;exact h2
def fixI(I:Im)(β:Be)(st:List Bk)(ks:List Nat):Im:=λb o=>I b o\/∃k∈ks,∃c e,β k=Aa (b,c)/\st[k]?=Aa e/\(e.kd.isMap=Ab\/o<e.cells.length)
theorem zAg(ks:List Nat):Fix I w (fixI I β st ks) w:=λb o h=>⟨.inl h,λv hv=>hv,λ_ _ h=>h⟩
theorem zC8{ks ls:List Nat}(h:∀k∈ks,k∈ls):Fix (fixI I β st ks) w (fixI I β st ls) w:=λb o hi=>⟨hi.imp id (λ⟨k,hk,x⟩=>⟨k,h k hk,x⟩),λv hv=>hv,λ_ _ h=>h⟩
theorem zJg{f:D->Option (D×List Nat)}{R:List Nat->D->Value->Prop}(hm:∀ks ls d v,(∀k∈ks,k∈ls)->R ks d v->R ls d v):
  ∀(ds xs:List D)(ks:List Nat),mapF f ds=Aa (xs,ks)->xs.length=ds.length/\∀(i:Nat) d x,ds[i]?=Aa d->xs[i]?=Aa x->∃js,f d=Aa (x,js)/\∀k∈js,k∈ks
 |[],xs,ks,h=>by simp only[mapF,Ah.injEq,Am.injEq]at h;obtain⟨rfl,rfl⟩:=h;exact⟨rfl,by simp⟩
 | d::ds,xs,ks,h=>by
  simp only[mapF]at h;split at h
  ·cases h
  rename_i x js hx;split at h
  ·cases h
  rename_i ys ls hy;simp only[Ah.injEq,Am.injEq]at h;obtain⟨rfl,rfl⟩:=h;obtain⟨h1,h2⟩:=zJg hm ds ys ls hy;grind
theorem zBq{kn:Bool}(hs:SRw β I w st):∀(n:Nat)(d x:D)(ks:List Nat)(v:Value),frz kn st n d=Aa (x,ks)->Rel I w β d v->Rel (fixI I β st ks) w noB x v
 |0,d,x,ks,v,h,hr=>by
  simp only[frz,Ah.injEq,Am.injEq]at h;obtain⟨rfl,rfl⟩:=h;simp only[Rel]
 | n + 1,d,x,ks,v,h,hr=>by
  have ih:=zBq (kn:=kn) hs n;have many:∀(ds xs:List D)(ks:List Nat),mapF (frz kn st n) ds=Aa (xs,ks)->xs.length=ds.length/\∀(i:Nat) d x v,ds[i]?=Aa d->xs[i]?=Aa x->Rel I w β d v->Rel (fixI I β st ks) w noB x v:=by
   intro ds xs ks hm;obtain⟨h1,h2⟩:=zJg (R:=λ_ _ _=>True) (λ_ _ _ _ _ h=>h) ds xs ks hm;refine⟨h1,λi d x v hd hx hr=>?_⟩;obtain⟨js,k1,k2⟩:=h2 i d x hd hx;exact Rel.mono (zC8 k2) noB noB (BeLe.refl _) _ _ (ih d x js v k1 hr)
  have manyL:∀(ds xs:List D)(ks:List Nat)(vs:List Value),mapF (frz kn st n) ds=Aa (xs,ks)->RelL I w β ds vs->RelL (fixI I β st ks) w noB xs vs:=by
   intro ds xs ks vs hm hv;obtain⟨h1,h2⟩:=many ds xs ks hm;refine RelL.of_get (by rw[h1,hv.length]) λi x v hx hv'=>?_;have hi:i<ds.length:=by rw[<-h1];exact(Ak.1 hx).1
   obtain⟨v',k1,k2,k3⟩:=hv.get i ds[i] (Aj hi);grind
  have manyT:∀(ds xs:List D)(ks:List Nat)(vs:List Value),mapF (frz kn st n) ds=Aa (xs,ks)->RelT I w β ds vs->RelT (fixI I β st ks) w noB xs vs:=by
   intro ds xs ks vs hm hv;obtain⟨h1,h2⟩:=many ds xs ks hm;refine RelT.of_get (by rw[h1,hv.length]) λi x v hx hv'=>?_;have hi:i<ds.length:=by rw[<-h1];exact(Ak.1 hx).1
   obtain⟨v',k1,k3⟩:=hv.get i ds[i] (Aj hi);grind
  unfold frz at h;split at h
  ·rename_i u;simp only[Rel]at hr;split at h
   ·split at h
    ·cases h;simp only[Rel];exact hr
    cases h;subst hr;simp only[Rel];grind
   cases h;simp only[Rel];exact hr
  ·cases h;simp only[Rel]
  ·cases h;simp only[Rel]at hr⊢;obtain⟨ad,cap,h1,h2,h3,h4,h5⟩:=hr;exact⟨ad,cap,h1,h2,h3,h4,h5.imp id (λ⟨b,o,h,k⟩=>⟨b,o,h,RelC.mono (zAg _) _ _ _ k⟩)⟩
  ·cases h;simp only[Rel]at hr⊢;obtain⟨b,o,h1,h2⟩:=hr;exact⟨b,o,h1,RelC.mono (zAg _) _ _ _ h2⟩
  ·cases h;simp only[Rel]at hr⊢;obtain⟨b,vs,h1,h2,h3,h4⟩:=hr;exact⟨b,vs,h1, .inl h2,h3,RelT.mono (zAg _) noB noB (BeLe.refl _) _ _ h4⟩
  ·cases h;simp only[Rel]at hr⊢;exact⟨hr.1,Rel.mono (zAg _) noB noB (BeLe.refl _) _ _ hr.2⟩
  ·cases h;simp only[Rel]at hr⊢;obtain⟨_,ad,cap,h1,h2,h3,h4,h5⟩:=hr;exact⟨ad,cap,h1,h2,h3,h4,h5.imp id (λ⟨b,o,h,k⟩=>⟨b,o,h,RelC.mono (zAg _) _ _ _ k⟩)⟩
  ·rename_i cs;cases hm:mapF (frz kn st n) cs with
   |none=>simp[hm]at h
   |some y=>
    simp only[hm,Aq,Ah.injEq,Am.injEq]at h;obtain⟨rfl,rfl⟩:=h;simp only[Rel]at hr⊢;grind
  ·rename_i cs;cases hm:mapF (frz kn st n) cs with
   |none=>simp[hm]at h
   |some y=>
    simp only[hm,Aq,Ah.injEq,Am.injEq]at h;obtain⟨rfl,rfl⟩:=h;simp only[Rel]at hr⊢;grind
  ·rename_i f p q;split at h
   ·cases h
   rename_i y js hy;cases hm:mapF (frz kn st n) q with
   |none=>simp[hm]at h
   |some z=>
    simp only[hm,Aq,Ah.injEq,Am.injEq]at h;obtain⟨rfl,rfl⟩:=h;simp only[Rel]at hr⊢;obtain⟨vs,us,rfl,hv,hu⟩:=hr;refine⟨vs,us,rfl,RelT.mono (zC8 ?_) noB noB (BeLe.refl _) _ _ (manyT p y js vs hy hv),RelT.mono (zC8 ?_) noB noB (BeLe.refl _) _ _ (manyT q z.1 z.2 us hm hu)⟩;all_goals grind
  ·rename_i t d;cases hm:frz kn st n d with
   |none=>simp[hm]at h
   |some y=>
    simp only[hm,Aq,Ah.injEq,Am.injEq]at h;obtain⟨rfl,rfl⟩:=h;simp only[Rel]at hr⊢;grind
  ·rename_i k off;split at h
   ·cases h
   rename_i e he;simp only[Rel]at hr;obtain⟨b,c,hb,rfl⟩:=hr;split at h
   ·cases h
   rename_i hmap;have hmap:e.kd.isMap=false:=by simpa using hmap
   have ho:=(hs k b c e hb he).c hmap;split at h
   ·rename_i harr;cases h;simp only[Rel];have:RelC (fixI I β st [k]) w e.cells b 0:=RelC.of_get λi d hd=>by
     obtain⟨v,k1,k2,k3⟩:=ho.cells_get hd;rw[harr]at k3;rw[AO];exact⟨.inr ⟨k,by simp,c,e,hb,he, .inr (Ak.1 hd).1⟩,v,k1,k2,Rel.mono (zAg _) noB noB (BeLe.refl _) _ _ k3⟩
    exact⟨b,off,rfl,by simpa using this.drop off⟩
   rename_i harr;have harr:e.nob=false:=by simpa using harr
   cases hm:mapF (frz kn st n) e.cells with
   |none=>simp[hm]at h
   | some y=>
    simp only[hm,Aq,Ah.injEq,Am.injEq]at h;obtain⟨rfl,rfl⟩:=h;obtain⟨h1,h2⟩:=many e.cells y.1 y.2 hm;simp only[Rel];have:RelC (fixI I β st (k::y.2)) w y.1 b 0:=RelC.of_get λi d hd=>by
     have hi:i<e.cells.length:=by rw[<-h1];exact(Ak.1 hd).1
     obtain⟨v,k1,k2,k3⟩:=ho.cells_get (Aj hi);rw[harr]at k3;rw[AO];exact⟨.inr ⟨k,by simp,c,e,hb,he, .inr hi⟩,v,k1,k2,Rel.mono (zC8 (λk hk=>by simp[hk])) noB noB (BeLe.refl _) _ _ (h2 i _ d v (Aj hi) hd k3)⟩
    exact⟨b,off,rfl,by simpa using this.drop off⟩
  ·rename_i k off l m wh;split at h
   ·cases h
   rename_i e he;split at h
   ·cases h
   rename_i hmap;have hmap:e.kd.isMap=false:=by simpa using hmap
   have fin:∀(cs:List D)(ks:List Nat),(∀b c,β k=Aa (b,c)->RelC (fixI I β st ks) w cs b 0)->Rel (fixI I β st ks) w noB (.row ((cs.drop off).take m) l) v:=by
    intro cs ks hcs;simp only[Rel]at hr⊢;rcases hr with⟨rfl,rfl,rfl⟩|⟨rfl,rfl,_,ad,c,rfl,hc1,hc2⟩|⟨b,c,cap,hb,rfl,h1,h2,h3⟩
    ·grind
    ·grind
    refine⟨Aa ⟨b,off,Ac⟩,cap,rfl,h1,h2,?_,Or.inr ⟨b,off,rfl,?_⟩⟩
    ·intro h;cases h
    simpa using((hcs b c hb).drop off).take m
   split at h
   ·rename_i harr;cases h;refine fin _ _ λb c hb=>RelC.of_get λi d hd=>?_;have ho:=(hs k b c e hb he).c hmap;obtain⟨v,k1,k2,k3⟩:=ho.cells_get hd;rw[harr]at k3;rw[AO];exact⟨.inr ⟨k,by simp,c,e,hb,he, .inr (Ak.1 hd).1⟩,v,k1,k2,Rel.mono (zAg _) noB noB (BeLe.refl _) _ _ k3⟩
   rename_i harr;have harr:e.nob=false:=by simpa using harr
   cases hm:mapF (frz kn st n) e.cells with
   |none=>simp[hm]at h
   |some y=>
    simp only[hm,Aq,Ah.injEq,Am.injEq]at h;obtain⟨rfl,rfl⟩:=h;obtain⟨h1,h2⟩:=many e.cells y.1 y.2 hm;refine fin _ _ λb c hb=>RelC.of_get λi d hd=>?_;have ho:=(hs k b c e hb he).c hmap;have hi:i<e.cells.length:=by rw[<-h1];exact(Ak.1 hd).1
    obtain⟨v,k1,k2,k3⟩:=ho.cells_get (Aj hi);rw[harr]at k3;rw[AO];exact⟨.inr ⟨k,by simp,c,e,hb,he, .inr hi⟩,v,k1,k2,Rel.mono (zC8 (λk hk=>by simp[hk])) noB noB (BeLe.refl _) _ _ (h2 i _ d v (Aj hi) hd k3)⟩
  rename_i k;split at h
  ·cases h
  rename_i e he;split at h
  ·rename_i mks hk;simp only[Rel]at hr;obtain⟨b,c,hb,rfl⟩:=hr;obtain⟨vs,hm1,hm2⟩:=(hs k b c e hb he).m hk;split at h
   ·rename_i harr;cases h;rw[harr]at hm2;simp only[Rel];exact⟨b,vs,rfl, .inr ⟨k,by simp,c,e,hb,he, .inl (by rw[hk];rfl)⟩,hm1,RelT.mono (zAg _) noB noB (BeLe.refl _) _ _ hm2⟩
   rename_i harr;have harr:e.nob=false:=by simpa using harr
   rw[harr]at hm2;cases hm:mapF (frz kn st n) e.cells with
   |none=>simp[hm]at h
   |some y=>
    simp only[hm,Aq,Ah.injEq,Am.injEq]at h;obtain⟨rfl,rfl⟩:=h
    have:=manyT e.cells y.1 y.2 vs hm hm2
    simp only[Rel];exact⟨b,vs,rfl, .inr ⟨k,by simp,c,e,hb,he, .inl (by rw[hk];rfl)⟩,hm1,RelT.mono (zC8 (λk hk=>by simp[hk])) noB noB (BeLe.refl _) _ _ this⟩
  cases h
end
section
variable {P : Program} {T : Par} {I I' : Im} {w w' : World} {β β' : Be} {sl : List D} {st : List Bk} {a : Act}
theorem zE0{α:Type}{l:List α}{i:Nat}{x:α}(h:l[i]?=Aa x):l.set i x=l:=by
 apply AK;grind
theorem zSv{d:TypeDesc}{a b:Value}(ha:zT d a=Ab)(hb:zT d b=Ab):Instr.sameNow d a b=Aa (vEq a b):=by
 unfold zT at ha;split at ha
 ·rename_i k k' x;cases b<;>simp only[zT,Al]at hb;rw[beq_iff_eq]at ha hb;subst ha;subst hb;simp[Instr.sameNow,vEq]
 ·rename_i x;cases b<;>simp only[zT,Al]at hb;rename_i y;simp only[Instr.sameNow,vEq,Ah.injEq];show(x.data==y.data)=_;rw[Array.beq_toList]
 ·rename_i x;cases b<;>simp only[zT,Al]at hb;simp[Instr.sameNow,vEq]
 cases ha
theorem vEq_eq{d:TypeDesc}{a b:Value}(ha:zT d a=Ab)(hb:zT d b=Ab)(h:vEq a b=Ab):a=b:=by
 unfold zT at ha;split at ha
 ·cases b<;>simp only[zT,Al]at hb;rw[beq_iff_eq]at ha hb;subst ha;subst hb;simp only[vEq,beq_iff_eq]at h;rw[h]
 ·rename_i x;cases b<;>simp only[zT,Al]at hb;rename_i y;simp only[vEq,beq_iff_eq]at h;obtain⟨⟨x⟩⟩:=x;simp_all
 ·cases b<;>simp only[zT,Al]at hb;simp only[vEq,beq_iff_eq]at h;rw[h]
 cases ha
theorem zNr{d:TypeDesc}{a:Value}(ha:zT d a=Ab)(n:Nat):Instr.sameBits n a a=true:=by
 unfold zT at ha;split at ha
 ·cases n<;>simp[Instr.sameBits]
 ·rename_i x;cases n<;>simp only[Instr.sameBits]<;>(show(x.data==x.data)=Ab;simp)
 ·cases n<;>simp[Instr.sameBits]
 cases ha
theorem zDl{t:TypeId}{d:TypeDesc}{v:Value}(ht:P.underlying t=Aa d)(hv:zT d v=Ab)(e:Bool)(W:World):(Instr.checkKey e 10000 t v).run P W= .ok () W:=by
 have key:∀n,(Instr.checkKey e (n+1) t v).run P W= .ok () W:=by
  intro n;rw[Instr.checkKey,Ae,run_underlying ht W,Ag];unfold zT at hv;split at hv
  ·rfl
  ·rfl
  ·rfl
  cases hv
 exact key 9999
theorem zM8{d:TypeDesc}{k:Value}(hk:zT d k=Ab):∀(es:List MapEntry)(j:Nat),(es.map (·.key)).all (zT d)=Ab->
  Instr.findNow d k es j=Aa ((zDj (es.map (·.key)) k).bind λi=>(es[i]?).map λe=>(j+i,e.val))
 |[],j,_=>by simp[Instr.findNow,zDj]
 | e::es,j,h=>by
  simp only[Au,List.all_cons,Av]at h;have ih:=zM8 hk es (j+1) h.2;rw[Instr.findNow,zSv hk h.1];simp only[zDj,Au,List.findIdx?_cons]at ih⊢;cases hv:vEq k e.key
  ·simp only[Al,if_false];rw[ih];cases(es.map (·.key)).findIdx? (vEq k)with
   |none=>rfl
   |some i=>
    grind
  simp
theorem zMz{d:TypeDesc}{ks:List Value}{k:Value}{i:Nat}(h:zDj ks k=Aa i):∃x,ks[i]?=Aa x/\vEq k x=true:=by
 grind [zDj,List.findIdx?_eq_some_iff_getElem,Aj]
theorem zGo{kt:TypeId}{d:TypeDesc}{k:Value}(ht:P.underlying kt=Aa d)(hk:zT d k=Ab)(es:List MapEntry)(h:(es.map (·.key)).all (zT d)=Ab)(W:World):
  (Instr.findKey kt k es).run P W= .ok ((zDj (es.map (·.key)) k).bind λi=>(es[i]?).map λe=>(i,e.val)) W:=by
 rw[Instr.findKey,Ae,run_underlying ht W,Ag,zM8 hk es 0 h];simp
theorem zY0{t:TypeId}{z:D}(h:zeroV P t=Aa z):∃v,(∀W:World,(zeroValue t).run P W= .ok v W)/\Rel I w β z v:=by
 unfold zeroV at h;split at h
 ·cases h
 rename_i i hi;split at h
 ·cases h
 ·rename_i cs hz;split at h
  ·rename_i hall;cases h;refine⟨_,zEr hi hz,?_⟩;simp only[Rel];refine⟨cs.toList,by simp,?_⟩;have h1:∀u∈cs.toList,u.oneCell'=true:=λu hu=>AE.1 hall u hu;generalize cs.toList=l at h1;induction l with
   |nil=>simp only[AD,RelL]
   |cons u l ih=>simp only[Au,RelL];exact⟨u,l,rfl,h1 u (AM ..),Rel.valI u,ih (λx hx=>h1 x (AS _ hx))⟩
  cases h
 rename_i v _ hz;cases h<;>simp_all [zEr,Rel.valI]
theorem zNt{t kt e:TypeId}{d:TypeDesc}{x key zv:Value}{es:Array MapEntry}(ok:Bool)(ht:P.underlying t=Aa (.map kt e))(hkt:P.underlying kt=Aa d)
  (hx:(x= .map Ac/\es=#[])\/∃b c,x= .map (Aa b)/\w.heap[b]?=Aa (.map es c))(hk:zT d key=Ab)(hks:(es.toList.map (·.key)).all (zT d)=Ab)(hz:∀W:World,(zeroValue e).run P W= .ok zv W):
  (Instr.lookup t x key ok).run P w= .ok (match((zDj (es.toList.map (·.key)) key).bind λi=>(es.toList[i]?).map λe=>(i,e.val))with
   |some (_,v)=>if ok then .tuple #[v, .bool Ab]else v
   |none=>if ok then .tuple #[zv, .bool Ad]else zv) w:=by
 rw[Instr.lookup,Ae,run_underlying ht w,Ag];rcases hx with⟨rfl,rfl⟩|⟨b,c,rfl,hb⟩
 ·simp only[Ae,An,Ag,zDl hkt hk,zGo hkt hk _ hks];simp_all
 have hg:=MapKept.run_getObj_map (P:=P) hb;simp only[Ae,hg,An,Ag,zDl hkt hk,zGo hkt hk _ hks];cases(zDj (es.toList.map (·.key)) key).bind λi=>(es.toList[i]?).map λe=>(i,e.val)with
 |none=>simp only[Ae,hz,Ag,An]
 |some y=>simp only[Ae,An,Ag]
def putKs(ks:List Value)(key:Value):List Value:=match zDj ks key with
 |some _=>ks
 |none=>ks++[key]
def putVs{α:Type}(ks:List Value)(vs:List α)(key:Value)(v:α):List α:=match zDj ks key with
 |some i=>vs.set i v
 |none=>vs++[v]
theorem zJ6{t kt e:TypeId}{d:TypeDesc}{b:Nat}{key val:Value}{ks vs:List Value}(ht:P.underlying t=Aa (.map kt e))(hkt:P.underlying kt=Aa d)
  (hm:MapIs w b ks vs)(hk:zT d key=Ab)(hks:ks.all (zT d)=Ab):
  ∃w',(Instr.mapUpdate t (.map (Aa b)) key val).run P w= .ok () w'/\MapIs w' b (putKs ks key) (putVs ks vs key val)/\(∀k,k≠b->w'.heap[k]?=w.heap[k]?)/\w'.heap.size=w.heap.size/\w'.os=w.os/\w'.tape=w.tape/\w'.output=w.output:=by
 obtain⟨es,c,h1,rfl,rfl,h4,h5⟩:=hm;have hblt:b<w.heap.size:=(Ao.1 h1).1;have hf:=zGo (P:=P) hkt hk es.toList hks w;have fin:∀(o:Obj),let w':World:={w with heap:=w.heap.setIfInBounds b o};w'.heap[b]?=Aa o/\(∀k,k≠b->w'.heap[k]?=w.heap[k]?)/\w'.heap.size=w.heap.size:=by
  grind
 cases hmf:zDj (es.toList.map (·.key)) key with
 | none=>
  rw[hmf]at hf;refine⟨{w with heap:=w.heap.setIfInBounds b (.map (es.push {key,val:=val,born:=c}) (c+1))},?_,?_,(fin _).2.1,(fin _).2.2,rfl,rfl,rfl⟩
  ·simp[Instr.mapUpdate,run_underlying ht,MapKept.run_getObj_map h1,zDl hkt hk,hf,MapKept.run_setObj_map _ h1,Bg]
  refine⟨_,_,(fin _).1,by simp[putKs,hmf],by simp[putVs,hmf],λx hx=>?_,?_⟩;all_goals grind
 | some i=>
  obtain⟨x,hx,hv⟩:=zMz (d:=d) hmf;rw[Ax]at hx;obtain⟨e0,he0,rfl⟩:=As.1 hx;rw[hmf]at hf;simp only[Bf,he0,Aq]at hf;have hfit:zT d e0.key=true:=AE.1 hks _ (A4.2 ⟨e0,A5 he0,rfl⟩);have hkk:key=e0.key:=vEq_eq hk hfit hv;have hst:∀W:World,(Instr.keyThatStays e0.key key).run P W= .ok key W:=λW=>by
   rw[Instr.keyThatStays,<-hkk,zNr hk];rfl
  have he0':es[i]?=Aa e0:=by simpa using he0
  have e1:((es[i]?).map (·.key)).getD key=e0.key:=by simp[he0']
  have hilt:i<es.toList.length:=(Ak.1 he0).1;refine⟨{w with heap:=w.heap.setIfInBounds b (.map (es.modify i λe=>{e with key,val:=val}) c)},?_,?_,(fin _).2.1,(fin _).2.2,rfl,rfl,rfl⟩
  ·simp[Instr.mapUpdate,run_underlying ht,MapKept.run_getObj_map h1,zDl hkt hk,hf,e1,hst,MapKept.run_setObj_map _ h1,Bg]
  have hml:(es.modify i λe=>{e with key,val:=val}).toList=es.toList.modify i λe=>{e with key,val:=val}:=by simp
  have hmap:∀{α:Type}(f:MapEntry->α)(g:MapEntry->MapEntry)(y:α),f (g e0)=y->(es.toList.modify i g).map f=(es.toList.map f).set i y:=by
   intro α f g y hy;apply AK;grind
  refine⟨_,_,(fin _).1,?_,?_,λx hx=>?_,?_⟩
  ·rw[hml,hmap _ _ e0.key (by simp[hkk])];simp only[putKs,hmf];grind [zE0]
  ·rw[hml,hmap _ _ val rfl];simp only[putVs,hmf]
  all_goals grind [A6,As,A5,zE0]
theorem RelL.clean:∀{ds:List D}{vs:List Value},RelL I w β ds vs->RelL I w noB (ds.map zJ2) vs
 |[],vs,h=>by simpa only[RelL,AD]using h
 |d::ds,vs,h=>by
  simp only[RelL,Au]at h⊢;obtain⟨v,us,rfl,h1,h2,h3⟩:=h;refine⟨v,us,rfl,h1,?_,h3.clean⟩;cases d<;>simp only[zJ2,Rel]at h2⊢;exact h2
theorem zKy{sh:Bool}(hs:SRw β I w st){x:D}{u:Value}{xs:List D}{m:Nat}(hx:Rel I w β x u)(h:zEn sh st x=Aa (xs,m)):
  ∃ad c vs,u= .slice ad m c/\(ad=Ac->c=0)/\RelL I w (if sh then β else noB) xs vs/\(vs=[]\/∃b o,ad=Aa ⟨b,o,Ac⟩/\w.rangeAt b o vs):=by
 have up:∀{ds:List D}{us:List Value},RelL I w noB ds us->RelL I w (if sh then β else noB) ds us:=λh0=>by
  clear h hx;cases sh
  ·exact h0
  exact RelL.mono (Fix.refl I w) noB β (BeLe.no β) _ _ h0
 unfold zEn at h;split at h
 ·rename_i k off n mm wh;split at h
  ·rename_i e he;split at h
   ·rename_i harr;simp only[A3]at harr;have key:∀ys,((e.nob=Ab\/sh=Ab)/\ys=(e.cells.drop off).take mm\/ys=((e.cells.drop off).take mm).map zJ2)->n=m->ys=xs->∃ad c vs,u= .slice ad m c/\(ad=Ac->c=0)/\RelL I w (if sh then β else noB) xs vs/\(vs=[]\/∃b o,ad=Aa ⟨b,o,Ac⟩/\w.rangeAt b o vs):=by
     intro ys hys e1 e2;subst e1 e2;have hnil:mm=0->ys=[]:=λe0=>by
      grind
     simp only[Rel]at hx;rcases hx with⟨rfl,h0,rfl⟩|⟨rfl,h0,_,ad,c,rfl,h1,h2⟩|⟨b,c,cap,hb,rfl,h1,h2,h3⟩
     ·exact⟨Ac,0,[],rfl,λ_=>rfl,by rw[hnil h0];simp only[RelL], .inl rfl⟩
     ·exact⟨ad,c,[],rfl,h2,by rw[hnil h0];simp only[RelL], .inl rfl⟩
     obtain⟨cur,k1,k2,k3,_⟩:=(hs k b c e hb he).c harr;have k4:RelL I w (if sh then β else noB) ys (((cur.take e.cells.length).drop off).take mm):=by
      rcases hys with⟨hn,rfl⟩|rfl
      ·have k3':RelL I w (if sh then β else noB) e.cells (cur.take e.cells.length):=by
        grind
       exact k3'.sub off mm
      exact up (k3.sub off mm).clean
     refine⟨_,cap,((cur.take e.cells.length).drop off).take mm,rfl,(λh=>by cases h),k4, .inr ⟨b,off,rfl,λj v hv=>?_⟩⟩;rw[Ar]at hv;split at hv
     ·rw[A0,Ar]at hv;split at hv
      ·rw[cell_of_row w b (off+j) cur.toArray e.ty (0,0) k1];simpa using hv
      cases hv
     cases hv
    grind
   cases h
  cases h
 unfold asRow at h;split at h
 ·cases h;simp only[Rel]at hx;obtain⟨ad,cap,rfl,_,_,h3,h4⟩:=hx;rcases h4 with rfl|⟨b,o,rfl,h4⟩
  ·exact⟨ad,cap,[],rfl,h3,by simp only[RelL], .inl rfl⟩
  obtain⟨vs,k1,k2,k3⟩:=h4.list;grind
 ·cases h;simp only[Rel]at hx;subst hx;exact⟨Ac,0,[],rfl,λ_=>rfl,by simp only[RelL], .inl rfl⟩
 cases h
theorem zMe:∀{ds:List D}{l:List UInt8}{vs:List Value},zE5 ds=Aa l->RelL I w β ds vs->vs.length=l.length/\∀(i:Nat) v,vs[i]?=Aa v->∃n,v= .int .u8 n/\l[i]?=Aa (AB n.toNat)
 |[],l,vs,h,hr=>by
  simp only[zE5,Ah.injEq]at h;simp only[RelL]at hr;grind
 | d::ds,l,vs,h,hr=>by
  simp only[RelL]at hr;obtain⟨v,us,rfl,_,h3,h4⟩:=hr;unfold zE5 at h;split at h
  ·rename_i he;cases he
  ·rename_i n ds' he;cases he;obtain⟨l',h1,rfl⟩:=As.1 h;obtain⟨k1,k2⟩:=zMe h1 h4;simp only[Rel]at h3;grind
  cases h
theorem zGh(f:Value->ByteArray->Sem (ForInStep ByteArray))(hf:∀n s,f (.int .u8 n) s=pure (.yield (s.push (AB n.toNat))))(l:List UInt8):∀(vs:List Value)(s:ByteArray)(j:Nat),vs.length+j=l.length->(∀(i:Nat) v,vs[i]?=Aa v->∃n,v= .int .u8 n/\l[j+i]?=Aa (AB n.toNat))->s.data.toList=l.take j->∀W:World,
  (forIn vs s f).run P W= .ok ⟨l.toArray⟩ W
 | [],s,j,hl,h,hs,W=>by
  have:l.take j=l:=Bh (by simp at hl;omega);rw[this]at hs;rw[List.forIn_nil];have:s=⟨l.toArray⟩:=by
   obtain⟨⟨s⟩⟩:=s;simp only at hs;rw[hs]
  rw[this];rfl
 | v::vs,s,j,hl,h,hs,W=>by
  obtain⟨n,rfl,hn⟩:=h 0 v rfl;rw[AL]at hn;rw[List.forIn_cons,Ae,hf];have ih:=zGh f hf l vs (s.push (AB n.toNat)) (j+1) (by simp at hl;omega) (λi v hv=>by
   have:=h (i+1) v (by simpa using hv)
   rw[show j+1+i=j+(i+1) by omega];exact this) (by
   have hlt:=(Ak.1 hn).1;have hn2:l[j]=AB n.toNat:=by rw[Aj hlt]at hn;exact Ah.inj hn
   rw[List.take_succ_eq_append_getElem hlt,hn2,<-hs];simp[ByteArray.push]) W
  exact ih
theorem zMm{n:Nat}{ds:List D}{l:List UInt8}{vs:List Value}{ad:Option Addr}{c:Nat}(hb:zE5 ds=Aa l)(hr:RelL I w β ds vs)(hn:ds.length=n)(hvs:vs=[]\/∃b o,ad=Aa ⟨b,o,Ac⟩/\w.rangeAt b o vs):
  (Conv.bytesToString (.slice ad n c)).run P w= .ok (.string ⟨l.toArray⟩) w:=by
 obtain⟨k1,k2⟩:=zMe hb hr;have hlen:=hr.length;cases ad with
 |none=>
  have:vs=[]:=by rcases hvs with h|⟨b,o,h,_⟩;exact h;cases h
  subst this;have hl:l=[]:=AR (by simpa using k1.symm);subst hl;rfl
 | some ad=>
  have hld:(loadCells ad n).run P w= .ok vs.toArray w:=by
   have:=run_loadCells_list (P:=P) (w:=w) ad vs (λj v hj=>by
    rcases hvs with rfl|⟨b,o,h,hra⟩
    ·simp at hj
    cases h;rw[Addr.add_mid];exact hra j v hj)
   grind
  have hk:∀(i:Nat) v,vs[i]?=Aa v->∃n,v= .int .u8 n/\l[0+i]?=Aa (AB n.toNat):=λi v hv=>by
   grind
  have hk0:vs.length+0=l.length:=by simpa using k1
  unfold Conv.bytesToString;simp only[Ae,hld,Ag,List.forIn_toArray];rw[zGh _ (by intro n s;rfl) l vs ByteArray.empty 0 hk0 hk rfl w];rfl
end
section
variable {S : Nat → Prop}
theorem zJ3{P:Program}{w:World}{t t2 e e2 ty:TypeId}{b:Option Addr}{n c:Nat}{x:Value}{i:TypeInfo}(ht:P.underlying t=Aa (.slice e))(ht2:P.underlying t2=Aa (.slice e2))(hi:P.info? e=Aa i):
  (Builtin.append_ #[t,t2] ty #[.slice b n c,x]).run P w=(Builtin.append_ #[t,t] ty #[.slice b n c,x]).run P w:=by
 simp only[Builtin.append_,sizeOf,typeInfo,hi,Ae,run_underlying ht,run_underlying ht2,Bg,List.getElem?_toArray,A7,List.getElem?_cons_succ]
end
section
variable {P : Program} {T : Par} {I I' : Im} {w w' : World} {β β' : Be} {sl : List D} {st : List Bk} {a : Act}
theorem zJk{kn:Bool}(hs:SRw β I w st)(n:Nat)(ds xs:List D)(ks:List Nat)(vs:List Value)(hm:mapF (frz kn st n) ds=Aa (xs,ks))(hv:RelT I w β ds vs):RelT (fixI I β st ks) w noB xs vs:=by
 obtain⟨h1,h2⟩:=zJg (R:=λ_ _ _=>True) (λ_ _ _ _ _ h=>h) ds xs ks hm;refine RelT.of_get (by rw[h1,hv.length]) λi x v hx hv'=>?_;have hi:i<ds.length:=by rw[<-h1];exact(Ak.1 hx).1
 obtain⟨v',k1,k3⟩:=hv.get i ds[i] (Aj hi);rw[hv']at k1;cases k1;obtain⟨js,j1,j2⟩:=h2 i _ x (Aj hi) hx;exact Rel.mono (zC8 j2) noB noB (BeLe.refl _) _ _ (zBq hs n _ x js v j1 k3)
structure OutN(β:Be)(I:Im)(w:World)(st news:List Bk)(fz:List Nat)(β':Be)(I':Im)(w':World):Prop where
 ext:Ext w w'
 fix:Fix I w I' w'
 be:∀k,(k<st.length\/st.length+news.length<=k)->β' k=β k
 nb:∀k b c,st.length<=k->k<st.length+news.length->β' k=Aa (b,c)->w.heap.size<=b/\∃e,news[k-st.length]?=Aa e/\OwnRel I' w' β' b c e/\∀j,I' b j->e.fz=Ab/\(e.kd.isMap=Ab\/j<e.cells.length)
 inj:∀k k' b c c',st.length<=k->k<st.length+news.length->st.length<=k'->k'<st.length+news.length->β' k=Aa (b,c)->β' k'=Aa (b,c')->k=k'
 im:∀b o,I' b o->fixI I β st fz b o\/w.heap.size<=b
 imb:ImB I w->ImB I' w'
theorem OutN.stay(β:Be)(I:Im)(w:World)(st:List Bk):OutN β I w st [] [] β I w:=
 ⟨Ext.refl w,Fix.refl I w,λ_ _=>rfl,λk b c h1 h2=>by simp at h2;omega,λk k' b c c' h1 h2=>by simp at h2;omega,λb o h=> .inl (.inl h),λh=>h⟩
theorem zHi{t:TypeId}{ds:List D}{b o:Nat}{p:Prop}{d:D}(hc:∀(j:Nat) x,ds[j]?=Aa x->∃v,w.cell? ⟨b,o+j,Ac⟩=Aa v/\v.oneCell'=Ab/\Rel I w β x v)(he:ldP P t ds .get= .get p d)(hp:p):
  ∃v,(Instr.loadAt t (.pointer (Aa ⟨b,o,Ac⟩))).run P w= .ok v w/\Rel I w β d v:=by
 unfold ldP at he;split at he
 ·cases he
 rename_i s hs;obtain⟨i,ds',hi1,hi2,hi3⟩:=zKt hs;split at he
 ·rename_i hag;simp only[Eff.get.injEq]at he;obtain⟨rfl,rfl⟩:=he;have hex:∀n,n<=ds.length->∃vs:List Value,vs.length=n/\w.rangeAt b o vs/\RelL I w β (ds.take n) vs:=by
   intro n;induction n with
   |zero=>intro _;exact⟨[],rfl,λj v hv=>by simp at hv,by simp only[Bi,RelL]⟩
   | succ n ih=>
    intro hn;obtain⟨vs,k1,k2,k3⟩:=ih (by omega);obtain⟨v,v1,v2,v3⟩:=hc n ds[n] (by simp[hn]);refine⟨vs++[v],by simp[k1],λj u hu=>?_,?_⟩
    ·rw[Bj]at hu;split at hu
     ·exact k2 j u hu
     grind
    refine RelL.of_get (by simp[k1];omega) λj x u hx hu=>?_;rw[Ar]at hx;split at hx
    ·rw[Bj]at hu;split at hu
     ·rename_i hj hj2;obtain⟨u',m1,m2,m3⟩:=k3.get j x (by rw[Ar,if_pos (by omega)];exact hx);grind
     grind
    cases hx
  obtain⟨vs,k1,k2,k3⟩:=hex s hp;refine⟨.agg vs.toArray,?_,by simp only[Rel];exact⟨vs,rfl,k3⟩⟩;refine run_loadAt_mid w b o t vs ds' k2 hi3 ?_ (by simp[hi1,hi2,k1]);grind [zDw]
 rename_i hag;simp only[Eff.get.injEq]at he;obtain⟨rfl,rfl⟩:=he;cases ds with
 |nil=>simp at hp
 |cons x ds=>
  obtain⟨v,v1,v2,v3⟩:=hc 0 x rfl;refine⟨v,?_,v3⟩;simp only[AL]at v1;simp[Instr.loadAt,Instr.sureAddr,loadVar,Ae,zSw hs,hag,v1]
theorem zDs{t:TypeId}{ds:List D}{e:Eff}(h:ldP P t ds .get=e):e= .bad\/∃p d,e= .get p d:=by
 grind [ldP]
theorem zBc{f:FuncId}{args:List D}{im:FuncId->Bool}{e:Eff}(h:zJq P im f args st=e):e= .bad\/(∃xs ks,e= .call f xs ks/\im f=Ad/\mapF (frz Ab st zAu) args=Aa (xs,ks)/\∃fn c,P.funcs[f]?=Aa fn/\(fn.name== "runtime.NumGoroutine")=Ad/\fn.body=Aa c)\/
  (e= .act f args/\im f=Ab/\∃fn c,P.funcs[f]?=Aa fn/\(fn.name== "runtime.NumGoroutine")=Ad/\fn.body=Aa c):=by
 unfold zJq at h;split at h
 ·exact .inl h.symm
 rename_i fn hf;split at h
 ·exact .inl h.symm
 rename_i hb;simp only[A8,not_or,Bool.not_eq_true]at hb;obtain⟨hb1,hb2⟩:=hb;obtain⟨c,hc⟩:∃c,fn.body=Aa c:=by cases hx:fn.body<;>simp_all
 grind
theorem zKp{sh:Bool}{t u:TypeId}{s x:D}{e:Eff}(h:zFv P sh t u s x st=e):e= .bad\/(∃p b d fz,e= .new p b d fz)\/∃p k b d,e= .app p k b d:=by
 have key:∀{sh:Bool}{e1 e2:TypeId}{i:TypeInfo}{z xs:List D}{m:Nat},aApp sh e1 e2 i z xs m s st=e->e= .bad\/(∃p b d fz,e= .new p b d fz)\/∃p k b d,e= .app p k b d:=by
  intro sh e1 e2 i z xs m h;unfold aApp at h;grind
 grind [zFv]
theorem zB6{t:TypeId}{x:D}{e:Eff}(h:zXu P t x st=e):e= .bad\/∃p k b fz,e= .put p k b fz:=by
 unfold zXu at h;grind
theorem zC0{t u:TypeId}{s x:D}{e:Eff}(h:aCopy P t u s x st=e):e= .bad\/∃p k b fz,e= .put p k b fz:=by
 unfold aCopy at h;grind
theorem zA8{t:TypeId}{x i v:D}{e:Eff}(h:zCr P t x i v st=e):e= .bad\/∃p k b fz,e= .put p k b fz:=by
 unfold zCr at h;split at h;all_goals grind
theorem zFl{t:TypeId}{x i:D}{ok:Bool}{e:Eff}(h:zJn P t x i ok st=e):e= .bad\/∃p d,e= .get p d:=by
 have key:∀kt et key ks cs,zFu P ok kt et key ks cs=e->e= .bad\/∃p d,e= .get p d:=by
  grind [zFu]
 unfold zJn at h;split at h;all_goals grind
theorem zHh{t:TypeId}{x:D}{e:Eff}(h:zYw P t x st=e):e= .bad\/∃p d,e= .get p d:=by
 unfold zYw at h;grind
theorem zGe{s t:TypeId}{x:D}{e:Eff}(h:zSk P s t x st=e):e= .bad\/∃p d,e= .get p d:=by
 grind [zSk]
theorem zE6{t:TypeId}{n:Nat}{ps:List (Nat×D)}{e:Eff}{sh:Bool}(h:(if sh then zC1 P t n ps st else zCs P t n ps st)=e):e= .bad\/∃p b d fz,e= .new p b d fz:=by
 grind [zC1,zCs]
theorem zEx{sh:Bool}{t:TypeId}{l c:D}{e:Eff}(h:zEg P sh t l c st=e):e= .bad\/∃p b d fz,e= .new p b d fz:=by
 unfold zEg at h;grind
theorem zH5{t:TypeId}{a x:D}{e:Eff}(h:(match a,tySz P t with
  | .own k off,Aa sz=>match st[k]? with
   |none=> .bad
   | some e=>if e.kd.isMap then .bad else if e.nob then match frz Ad st zAu x with
     |some (d,ks)=> .put (e.fz=Ad/\zGg d=Ab/\(cellsOf d).length=sz/\off+sz<=e.cells.length/\k∉ks) k {e with cells:=setAt e.cells off (cellsOf d)} ks
     |none=> .bad
    else .put (e.fz=Ad/\zGg x=Ab/\(cellsOf x).length=sz/\off+sz<=e.cells.length) k {e with cells:=setAt e.cells off (cellsOf x)} []
  |_,_=>Eff.bad)=e):e= .bad\/∃p k b fz,e= .put p k b fz:=by
 grind
theorem zYa(hs:SRw β I w st){t:TypeId}{x i:D}{u v:Value}{ok:Bool}{p:Prop}{d:D}(hx:Rel I w β x u)(hi:Rel I w β i v)(he:zJn P t x i ok st= .get p d)(hp:p):
  ∃y,(Instr.lookup t u v ok).run P w= .ok y w/\Rel I w β d y:=by
 have key:∀(kt et:TypeId)(k:Value)(ks:List Value)(cs:List D)(es:Array MapEntry)(β0:Be),(∀d v,Rel I w β0 d v->Rel I w β d v)->P.underlying t=Aa (.map kt et)->es.toList.map (·.key)=ks->RelT I w β0 cs (es.toList.map (·.val))->
   ((u= .map Ac/\es=#[])\/∃b c,u= .map (Aa b)/\w.heap[b]?=Aa (.map es c))->v=k->zFu P ok kt et k ks cs= .get p d->∃y,(Instr.lookup t u v ok).run P w= .ok y w/\Rel I w β d y:=by
  intro kt et k ks cs es β0 up ht hk hr hu hv h;subst hk;subst hv;unfold zFu at h;split at h
  ·rename_i desc z hkt hz;simp only[Eff.get.injEq]at h;obtain⟨rfl,rfl⟩:=h;obtain⟨zv,hz1,hz2⟩:=zY0 (I:=I) (w:=w) (β:=β) hz;have hrun:=zNt (P:=P) ok ht hkt hu hp.1 hp.2 hz1;refine⟨_,hrun,?_⟩;have ct:∀(dd:D)(vv:Value)(b:Bool),Rel I w β dd vv->Rel I w β (ctD ok dd b) (if ok then .tuple #[vv, .bool b]else vv):=by
    intro dd vv b h;unfold ctD;cases ok
    ·exact h
    simp only[if_true,Rel,RelT];grind
   unfold zEz;cases hf:zDj (es.toList.map (·.key)) v with
   |none=>exact ct _ _ _ hz2
   | some i=>
    obtain⟨y,hy,_⟩:=zMz (d:=desc) hf;rw[Ax]at hy;obtain⟨e0,he0,rfl⟩:=As.1 hy;simp only[Bf,he0,Aq];have hilt:i<cs.length:=by
     rw[hr.length,Bl];exact(Ak.1 he0).1
    obtain⟨v',k1,k2⟩:=hr.get i cs[i] (Aj hilt);grind
  cases h
 unfold zJn at he;split at he
 ·rename_i kt et k hu;simp only[Rel]at hi;split at he
  ·simp only[Rel]at hx;exact key kt et k [] [] #[] noB (λ_ _ h=>h.no) hu rfl (by simp only[AD,RelT]) (.inl ⟨hx,rfl⟩) hi he
  ·simp only[Rel]at hx;obtain⟨b,vs,h1,h2,⟨es,c,m1,m2,m3,_⟩,h4⟩:=hx;exact key kt et k _ _ es noB (λ_ _ h=>h.no) hu m2 (m3▸h4) (.inr ⟨b,c,h1,m1⟩) hi he
  ·split at he
   ·rename_i bk hb;split at he
    ·rename_i ks hkd;simp only[Rel]at hx;obtain⟨b,c0,hb0,h1⟩:=hx;obtain⟨vs,⟨es,c,m1,m2,m3,_⟩,h4⟩:=(hs _ b c0 bk hb0 hb).m hkd;refine key kt et k _ _ es (if bk.nob then noB else β) (λd v h=>?_) hu m2 (m3▸h4) (.inr ⟨b,c,h1,m1⟩) hi he;cases hn:bk.nob<;>rw[hn]at h
     ·exact h
     exact h.no
    cases he
   cases he
  cases he
 cases he
theorem zYb(hs:SRw β I w st){t ty:TypeId}{x:D}{u:Value}{ts:Array TypeId}{us:Array Value}{p:Prop}{d:D}(hx:Rel I w β x u)(ht:ts[0]?=Aa t)(hu:us[0]?=Aa u)(he:zYw P t x st= .get p d):
  ∃y,(Builtin.len_ ts ty us).run P w= .ok y w/\Rel I w β d y:=by
 have key:∀(kt et:TypeId)(ks:List Value)(b:Nat)(vs:List Value),P.underlying t=Aa (.map kt et)->MapIs w b ks vs->u= .map (Aa b)->d= .val (.int .i64 ks.length)->∃y,(Builtin.len_ ts ty us).run P w= .ok y w/\Rel I w β d y:=by
  intro kt et ks b vs h1 ⟨es,c,m1,m2,_⟩ h3 h4;subst h3;subst h4;refine⟨_,?_,Rel.valI _⟩;simp only[Builtin.len_,ht,hu,Ae,run_underlying h1,Ag,MapKept.run_getObj_map m1,An,goInt];rw[<-m2];simp
 unfold zYw at he;split at he
 ·rename_i kt et h1;simp only[Rel]at hx;subst hx;cases he;exact⟨_,by simp[Builtin.len_,ht,hu,Ae,run_underlying h1,goInt],Rel.valI _⟩
 ·rename_i kt et ks cs h1;cases he;simp only[Rel]at hx;grind
 ·rename_i kt et k h1;split at he
  ·rename_i bk hb;split at he
   ·rename_i ks hkd;cases he;simp only[Rel]at hx;obtain⟨b,c0,hb0,rfl⟩:=hx;obtain⟨vs,hm,_⟩:=(hs _ b c0 bk hb0 hb).m hkd;grind
   cases he
  cases he
 cases he
theorem zTm(hs:SRw β I w st){s t:TypeId}{x:D}{u:Value}{p:Prop}{d:D}(hx:Rel I w β x u)(he:zSk P s t x st= .get p d)(hp:p):∃y,(convert s t u).run P w= .ok y w/\Rel I w β d y:=by
 unfold zSk at he;split at he
 ·rename_i e xs n h1 h2 hsrc;cases he;obtain⟨ad,c,vs,rfl,k1,k2,k3⟩:=zKy hs hx hsrc
  have:=zMm (P:=P) (c:=c) hp.1 k2 hp.2.1 k3
  refine⟨_,?_,Rel.valI _⟩;simp[convert,Ae,run_underlying h1,run_underlying h2,run_underlying hp.2.2,this]
 cases he
theorem zLv(h:RelT I w β sl a.tmps.toList)(hs:SRw β I w st)(o:Oper)(hl:zY T o.op=Ad){p:Prop}{d:D}(he:aeff P T o.op o.type (evD sl) st= .get p d)(hp:p):
  ∃v,(execOp a.eval o).run P w= .ok (.value v) w/\Rel I w β d v:=by
 unfold execOp;generalize ho:o.op=op at hl he;cases op<;>simp only[zY,AJ]at hl<;>simp only[aeff,reduceCtorEq]at he;case alloc=>split at he<;>cases he
 case box=>split at he<;>cases he
 case makeMap=>split at he<;>cases he
 case buildSlice=>rcases zE6 he with h|⟨_,_,_,_,h⟩<;>cases h
 case makeSlice=>rcases zEx he with h|⟨_,_,_,_,h⟩<;>cases h
 case store=>rcases zH5 he with h|⟨_,_,_,_,h⟩<;>cases h
 case mapUpdate=>rcases zA8 he with h|⟨_,_,_,_,h⟩<;>cases h
 case insert=>rcases zA8 he with h|⟨_,_,_,_,h⟩<;>cases h
 case convert s t x=>
  simp only[AU]at hl;simp only[hl,if_true]at he;obtain⟨y,k1,k2⟩:=zTm hs (zAi h x) he hp;exact⟨y,by simp only[Ae,k1];rfl,k2⟩
 case lookup t x i ok=>
  obtain⟨y,k1,k2⟩:=zYa hs (zAi h x) (zAi h i) he hp;exact⟨y,by simp only[Ae,k1];rfl,k2⟩
 case call c=>
  obtain⟨callee,args,ts⟩:=c;split at he
  ·rename_i hcal;split at he
   ·rename_i t _ x _ h1 h2;split at he
    ·obtain⟨v,k1,k2⟩:=zYb (ty:=o.type) (ts:=ts) (us:=args.map a.eval) hs (zAi h x) (by rw[<-AN,h1];rfl) (by rw[<-AN,AT,h2];rfl) he;subst hcal;exact⟨v,by simp only[resolve,Ae,An,Ag,invoke,builtin,k1],k2⟩
    unfold aLen at he;exfalso;split at he<;>first|cases he|(split at he<;>cases he)
   cases he
  ·exfalso;split at he<;>cases he
  ·exfalso;split at he<;>cases he
  ·exfalso;split at he
   ·rcases zKp he with h|⟨_,_,_,_,h⟩|⟨_,_,_,_,h⟩<;>cases h
   cases he
  ·exfalso;split at he
   ·rcases zC0 he with h|⟨_,_,_,_,h⟩<;>cases h
   cases he
  ·exfalso;split at he
   ·rcases zB6 he with h|⟨_,_,_,_,h⟩<;>cases h
   cases he
  ·cases he
  ·exfalso;split at he
   ·rcases zBc he with h|⟨_,_,h,_⟩|⟨h,_⟩<;>cases h
   cases he
  exfalso;split at he
  ·split at he
   ·rcases zBc he with h|⟨_,_,h,_⟩|⟨h,_⟩<;>cases h
   cases he
  cases he
 case load t x=>
  have hx:=zAi h x;split at he
  ·rename_i cs hc;rw[hc]at hx;simp only[Rel]at hx;obtain⟨b,o',hv,hr⟩:=hx;obtain⟨v,h1,h2⟩:=zHi (I:=I) (w:=w) (β:=β) (b:=b) (o:=o') (λj x hx=>by
    obtain⟨_,v,k1,k2,k3⟩:=hr.get j x hx;exact⟨v,k1,k2,k3.no⟩) he hp
   exact⟨v,by simp only[hv,Ae,h1];rfl,h2⟩
  ·rename_i k off hc;rw[hc]at hx;simp only[Rel]at hx;obtain⟨b,c,hb,hv⟩:=hx;split at he
   ·rename_i e hk;split at he
    ·cases he
    rename_i hmap;have ho':=(hs k b c e hb hk).c (by simpa using hmap);obtain⟨v,h1,h2⟩:=zHi (I:=I) (w:=w) (β:=β) (b:=b) (o:=off) (λj x hx=>by
     rw[A0]at hx;obtain⟨v,k1,k2,k3⟩:=ho'.cells_get hx;refine⟨v,k1,k2,?_⟩;cases ha:e.nob<;>simp only[ha,if_true,if_false,Al]at k3
     ·exact k3
     exact k3.no) he hp
    exact⟨v,by simp only[hv,Ae,h1];rfl,h2⟩
   cases he
  cases he
end
section
variable {P : Program} {T : Par} {I I' : Im} {w w' : World} {β β' : Be} {sl : List D} {st : List Bk} {a : Act}
def addB(β:Be)(k:Nat)(x:Option (Nat×Nat)):Be:=λj=>if j=k then x else β j
theorem zA4(k:Nat)(x:Option (Nat×Nat)):addB β k x k=x:=by simp[addB]
theorem zC3{k j:Nat}(x:Option (Nat×Nat))(h:j≠k):addB β k x j=β j:=by simp[addB,h]
theorem zP6{k:Nat}(x:Option (Nat×Nat))(h:β k=Ac):BeLe β (addB β k x):=λj y hy=>by
 rw[zC3 x (λe=>by rw[e,h]at hy;cases hy)];exact hy
theorem zDt(hs:SRw β I w st)(hi:ImB I w)(ks:List Nat):ImB (fixI I β st ks) w:=by
 rintro b o (h|⟨k,_,c,e,h1,h2,_⟩)
 ·exact hi b o h
 exact(hs k b c e h1 h2).lt
theorem OutN.new(hs:SRw β I w st)(hi:ImB I w)(hn:β st.length=Ac)(fz:List Nat){e:Bk}{g cap:Nat}(hx:Ext w w')(hg:w.heap.size<=g)(ho:OwnRel (fixI I β st fz) w' (addB β st.length (Aa (g,cap))) g cap e):
  OutN β I w st [e] fz (addB β st.length (Aa (g,cap))) (fixI I β st fz) w':=by
 refine⟨hx,(zAg fz).trans (Fix.ext hx λ_ _ h=>h),λk hk=>zC3 _ (by simp at hk;omega),λk b c k1 k2 hk=>?_,λk k' b c c' k1 k2 k3 k4 _ _=>by simp at k2 k4;omega,λb o h=> .inl h,λ_ b o h=>?_⟩
 ·have:k=st.length:=by simp at k2;omega
  subst this;rw[zA4]at hk;cases hk;refine⟨hg,e,by simp,ho,λj hj=>?_⟩
  have:=zDt hs hi fz _ j hj
  omega
 exact A2 (zDt hs hi fz b o h) hx.size
theorem OutN.one(hs:SRw β I w st)(hi:ImB I w)(hn:β st.length=Ac)(fz:List Nat){e:Bk}{g cap:Nat}{cur:List Value}(hx:Ext w w')(hg:w.heap.size<=g)(hb:w'.heap[g]?=Aa (.cells cur.toArray e.ty (0,0)))
  (h1:e.cells.length<=cur.length)(hkd:e.kd.isMap=Ad)(h2:RelL (fixI I β st fz) w' (if e.nob then noB else addB β st.length (Aa (g,cap))) e.cells (cur.take e.cells.length))(h3:e.arr=Ab->cur.length=cap*e.sz)(h4:cap<=maxLen):
  OutN β I w st [e] fz (addB β st.length (Aa (g,cap))) (fixI I β st fz) w':=OutN.new hs hi hn fz hx hg (OwnC.r ⟨cur,hb,h1,h2,h3,h4⟩ hkd)
theorem OutN.none'(hx:Ext w w')(hn:β st.length=Ac)(e:Bk):OutN β I w st [e] [] β I w':=
 by
 refine ⟨hx, Fix.ext hx fun _ _ h => h, fun _ _ => rfl, fun k b c k1 k2 hk => ?_, fun k k' b c c' k1 k2 k3 k4 _ _ => ?_, fun b o h => .inl (.inl h), fun h b o hb => A2 (h b o hb) hx.size⟩
 ·have : k = st.length := by simp at k2; omega
  subst this
  rw [hn] at hk
  cases hk
 ·simp at k2 k4
  omega
theorem zB0(n:Nat)(z:List D):(repL n z).length=n*z.length:=by
 simp_all [repL,List.replicate_succ,AF,Nat.succ_mul,Nat.add_comm]
theorem zVy(n:Nat)(z:List D):∀j,j<n*z.length->(repL n z)[j]?=z[j%z.length]?:=by
 induction n with
 |zero=>intro j h;simp at h
 |succ n ih=>
  intro j h;have e:repL (n+1) z=z++repL n z:=by simp[repL,List.replicate_succ]
  rw[e,Bj];split;all_goals grind [Nat.mod_eq_of_lt,Nat.succ_mul,Nat.mod_eq_sub_mod]
theorem zWp{z:List D}{v:Value}(hz:z=v.cells.toList.map .val)(h1:∀u∈v.cells.toList,u.oneCell'=Ab)(hpos:0<z.length){n m:Nat}(hnm:n*z.length<=m):RelL I w β (repL n z) ((madeCells v.cells m).toList.take (n*z.length)):=by
 have hzl:z.length=v.cells.size:=by simp[hz]
 refine RelL.of_get (by simp[zB0,size_madeCells];omega) λj d u hd hu=>?_;have hj:j<n*z.length:=by
  grind
 rw[zVy n z j hj,hz,Ax]at hd;rw[Ar,if_pos hj]at hu;have hlt:j%z.length<v.cells.size:=by rw[<-hzl];exact Nat.mod_lt _ hpos
 have hg:v.cells.toList[j%(v.cells.toList.map D.val).length]?=Aa v.cells[j%z.length]:=by
  grind
 rw[hg]at hd;simp only[Aq,Ah.injEq]at hd;subst hd;have hu':u=v.cells[j%z.length]:=by
  have:(madeCells v.cells m).toList[j]?=Aa v.cells[j%z.length]:=by
   simp only[madeCells,AT,Ax,Array.toList_range];grind
  rw[this]at hu;cases hu;rfl
 subst hu';exact⟨h1 _ (by simp),by simp only[Rel]⟩
theorem zGi(hs:SRw β I w st):∀(ps qs:List (Nat×D))(ks:List Nat),zF9 st ps=Aa (qs,ks)->qs.length=ps.length/\∀(j:Nat) i d i' x v,ps[j]?=Aa (i,d)->qs[j]?=Aa (i',x)->Rel I w β d v->i'=i/\Rel (fixI I β st ks) w noB x v
 |[],qs,ks,h=>by simp only[zF9,Ah.injEq,Am.injEq]at h;obtain⟨rfl,rfl⟩:=h;exact⟨rfl,by simp⟩
 | (i,d)::ps,qs,ks,h=>by
  simp only[zF9]at h;split at h
  ·cases h
  rename_i x js hx;split at h
  ·cases h
  rename_i ys ls hy;simp only[Ah.injEq,Am.injEq]at h;obtain⟨rfl,rfl⟩:=h;obtain⟨h1,h2⟩:=zGi hs ps ys ls hy;refine⟨by simp[h1],λj i0 d0 i' x' v hd hx' hr=>?_⟩;cases j with
  |zero=>
   simp at hd hx';obtain⟨rfl,rfl⟩:=hd;obtain⟨rfl,rfl⟩:=hx';exact⟨rfl,Rel.mono (zC8 (λk hk=>by simp[hk])) noB noB (BeLe.refl _) _ _ (zBq hs _ _ _ _ _ hx hr)⟩
  |succ j=>
   obtain⟨k1,k2⟩:=h2 j i0 d0 i' x' v (by simpa using hd) (by simpa using hx') hr;exact⟨k1,Rel.mono (zC8 (λk hk=>by simp[hk])) noB noB (BeLe.refl _) _ _ k2⟩
theorem zNh{o:Oper}{s x:Operand}{ts:Array TypeId}{t u e e':TypeId}{i:TypeInfo}{z:Value}(ho:o.op= .call {callee:= .builtin .append,args:=#[s,x],argTypes:=ts})(hts:ts=#[t,u])
  (ht:P.underlying t=Aa (.slice e))(hu:P.underlying u=Aa (.slice e'))(hi:P.info? e=Aa i)(hz:i.zero=Aa z)(hzs:z.cells.size=i.size)(hsz:0<i.size)(hby:0<i.bytes)
  {base n m c:Nat}{v:Value}{xs vs:List Value}(hs:a.eval s=v)(hown:w.ownsRow base e i.size v n xs)(hbase:base<=w.heap.size){ad:Option Addr}(hx:a.eval x= .slice ad m c)(hc:ad=Ac->c=0)(hl:vs.length=m*i.size)
  (hvs:vs=[]\/∃b o,ad=Aa ⟨b,o,Ac⟩/\w.rangeAt b o vs)(h1:∀u∈vs,u.oneCell'=Ab)(hb:(n+m)*i.bytes<=140737488355328):
  ∃v' w',(execOp a.eval o).run P w= .ok (.value v') w'/\w'.ownsRow base e i.size v' (n+m) (xs++vs)/\w.grownBy w' v.ownBlock:=by
 subst hts;have hform:∃b n' c',v= .slice b n' c':=by
  obtain⟨h1,⟨rfl,rfl⟩|⟨g,cap,cur,rfl,_⟩⟩:=hown;all_goals grind
 have hm:n+m<=maxLen:=by
  have h2:n+m<=(n+m)*i.bytes:=Nat.le_mul_of_pos_right _ hby;unfold maxLen;omega
 have up:∀v' w',(Builtin.append_ #[t,t] o.type #[v, .slice ad m c]).run P w= .ok v' w'->(execOp a.eval o).run P w= .ok (.value v') w':=by
  intro v' w' hr;obtain⟨vb,vn,vc,rfl⟩:=hform
  have:=zJ3 (w:=w) (ty:=o.type) (b:=vb) (n:=vn) (c:=vc) (x:= .slice ad m c) ht hu hi
  simp[execOp,ho,resolve,invoke,builtin,hs,hx,this,hr]
 by_cases hm0:ad=Ac
 ·subst hm0;obtain rfl:=hc rfl;have hv0:vs=[]:=by rcases hvs with h|⟨b,o,h,_⟩;exact h;cases h
  subst hv0;have:m=0:=by
   grind [Nat.mul_eq_zero]
  subst this;have hr:=run_append_owned_none (P:=P) (w:=w) base t o.type e i i.size ht hi _ n xs hown;exact⟨v,w,up _ _ hr,by simpa using hown,⟨rfl,rfl,rfl,Af _,λ_ _ _=>rfl⟩⟩
 obtain⟨ad',rfl⟩:=Option.ne_none_iff_exists'.1 hm0;obtain⟨v',w',k1,k2,k3,_⟩:=run_append_own (P:=P) w base t o.type e i z i.size i.bytes ht hi hz rfl rfl hzs hsz v n xs hown ad' m c vs hl (λj y hj=>by
  rcases hvs with rfl|⟨b,o,h,hr⟩
  ·simp at hj
  cases h;rw[Addr.add_mid];exact hr j y hj) h1 hm hb hbase
 grind
theorem zRj{i:TypeInfo}(h:zWx i=Ab):i.size=1/\i.bytes=1/\i.zero=Aa (.int .u8 0):=by
 unfold zWx at h;grind
inductive AppSrc(P:Program)(w:World)(i:TypeInfo)(u:TypeId)(x:Value)(m:Nat)(vs:List Value):Prop where
 |sl {e':TypeId} {ad:Option Addr} {c:Nat} (hu:P.underlying u=Aa (.slice e')) (hx:x= .slice ad m c) (hc:ad=Ac->c=0) (hvs:vs=[]\/∃b o,ad=Aa ⟨b,o,Ac⟩/\w.rangeAt b o vs):AppSrc P w i u x m vs
 |str {s:ByteArray} (hu:P.underlying u=Aa .string) (hx:x= .string s) (hm:m=s.size) (hvs:vs=A9 s) (hi:zWx i=Ab):AppSrc P w i u x m vs
theorem zGv{o:Oper}{s x:Operand}{ts:Array TypeId}{t u e:TypeId}{i:TypeInfo}{z:Value}(ho:o.op= .call {callee:= .builtin .append,args:=#[s,x],argTypes:=ts})(hts:ts=#[t,u])
  (ht:P.underlying t=Aa (.slice e))(hi:P.info? e=Aa i)(hz:i.zero=Aa z)(hzs:z.cells.size=i.size)(hsz:0<i.size)(hby:0<i.bytes)
  {base n m:Nat}{v:Value}{xs vs:List Value}(hs:a.eval s=v)(hown:w.ownsRow base e i.size v n xs)(hbase:base<=w.heap.size)(hsrc:AppSrc P w i u (a.eval x) m vs)(hl:vs.length=m*i.size)
  (h1:∀u∈vs,u.oneCell'=Ab)(hb:(n+m)*i.bytes<=140737488355328):
  ∃v' w',(execOp a.eval o).run P w= .ok (.value v') w'/\w'.ownsRow base e i.size v' (n+m) (xs++vs)/\w.grownBy w' v.ownBlock:=by
 cases hsrc with
 |sl hu hx hc hvs=>exact zNh ho hts ht hu hi hz hzs hsz hby hs hown hbase hx hc hl hvs h1 hb
 |str hu hx hm hvs hib=>
  subst hts hm hvs;obtain⟨b1,b2,b3⟩:=zRj hib;rw[b1]at hown⊢;rw[b2]at hb;rename_i str;obtain⟨v',w',k1,k2,k3,_⟩:=Lib.run_append_own_string (P:=P) w base t u o.type e i ht hu hi b3 b1 b2 v n xs hown str (by simp[maxLen];omega) (by omega) hbase;exact⟨v',w',by simp[execOp,ho,resolve,invoke,builtin,hs,hx,k1],k2,k3⟩
theorem zQg(s:ByteArray):RelL I w β (zAe s.data.toList) (A9 s):=by
 unfold zAe A9;generalize s.data.toList=l;induction l with
 |nil=>simp only[AD,RelL]
 |cons b l ih=>simp only[Au,RelL];exact⟨_,_,rfl,rfl,Rel.valI _,ih⟩
theorem app_src(hs:SRw β I w st){sh:Bool}{t u:TypeId}{s:D}{x:Operand}{d:Eff}(hr:RelT I w β sl a.tmps.toList)(he:zFv P sh t u s (evD sl x) st=d)(hne:d≠ .bad):
  ∃e e' i z xs m,P.underlying t=Aa (.slice e)/\P.info? e=Aa i/\zH3 P e=Aa z/\(aApp sh e e' i z xs m s st=d\/aApp Ad e e' i z xs m s st=d)/\(xs.length=m*i.size->∃vs sh',(sh'=sh\/sh'=Ad)/\aApp sh' e e' i z xs m s st=d/\RelL I w (if sh' then β else noB) xs vs/\AppSrc P w i u (a.eval x) m vs):=by
 unfold zFv at he;split at he
 ·rename_i e e' hu hu';split at he
  ·rename_i i z xs m hi' hz hsrc;obtain⟨ad,c,vs,k1,k2,k3,k4⟩:=zKy hs (zAi hr x) hsrc;exact⟨e,e',i,z,xs,m,hu,hi',hz, .inl he,λ_=>⟨vs,sh, .inl rfl,he,k3, .sl hu' k1 k2 k4⟩⟩
  exact absurd he.symm hne
 ·rename_i e hu hu';split at he
  ·rename_i i z b hi' hz hx;split at he
   ·rename_i hib;have hv:=zAi hr x;rw[hx]at hv;simp only[Rel]at hv;exact⟨e,e,i,z,_,_,hu,hi',hz, .inr he,λ_=>⟨_,Ad, .inr rfl,he,zQg b, .str hu' hv (by rw[<-Lib.strCells_length];simp[A9]) rfl hib⟩⟩
   exact absurd he.symm hne
  exact absurd he.symm hne
 exact absurd he.symm hne
end
section
variable {P : Program} {T : Par} {I I' : Im} {w w' : World} {β β' : Be} {sl : List D} {st : List Bk} {a : Act}
theorem zEf(w:World)(cs:Array Value)(t:TypeId):(w.alloc (.cells cs t)).heap[w.heap.size]?=Aa (.cells cs.toList.toArray t (0,0)):=by
 have:=heap_alloc_new w (.cells cs t)
 simpa using this
theorem zSj(pl:Nat->Option (Nat×Nat)):∀(ps:List (Nat×D))(cs:List D)(p:Prop)(x:List D),zH1 pl ps cs=Aa (p,x)->x.length=cs.length:=by
 intro ps;induction ps with
 |nil=>intro cs p x hx;simp only[zH1,Ah.injEq,Am.injEq]at hx;rw[<-hx.2]
 | cons y ps ih=>
  intro cs p x hx;obtain⟨i,d⟩:=y;simp only[zH1]at hx;split at hx
  ·cases hx
  split at hx
  ·split at hx
   ·cases hx
   rename_i px hpx;simp only[Ah.injEq,Am.injEq]at hx;grind [zCw]
  cases hx
theorem zNf{o:Oper}{t e:TypeId}{len sz:Nat}{parts:Array (Nat×Operand)}{z cs:List D}{q:Prop}(ho:o.op= .buildSlice t len parts)(hu:P.underlying t=Aa (.slice e))(hsz:tySz P e=Aa sz)(hz:zH3 P e=Aa z)(ps:List (Nat×D))
  (hl:ps.length=(parts.toList.map λp=>(p.1,a.eval p.2)).length)(hps:∀(j:Nat) i d i' v,ps[j]?=Aa (i,d)->(parts.toList.map λp=>(p.1,a.eval p.2))[j]?=Aa (i',v)->i'=i/\Rel I w β d v)
  (hf:zH1 (λi=>Aa (i*sz,sz)) ps (repL len z)=Aa (q,cs))(hq:q)(p1:0<sz)(p2:z.length=sz)(p3:len*sz<=16777216):
  ∃ys:List Value,(execOp a.eval o).run P w= .ok (.value (.slice (Aa ⟨w.heap.size,0,Ac⟩) len len)) (w.alloc (.cells ys.toArray e))/\ys.length=len*sz/\cs.length=len*sz/\RelL I w β cs ys:=by
 obtain⟨i2,v,h1,h2,h3,h4,h5⟩:=zCu (P:=P) (I:=I) (w:=w) (β:=β) hz;have hmade:=zWp (I:=I) (w:=w) (β:=β) h4 h5 (by omega) (n:=len) (m:=len*sz) (by rw[p2];exact Af _);have htake:(madeCells v.cells (len*sz)).toList.take (len*z.length)=(madeCells v.cells (len*sz)).toList:=by
  rw[Bh (by simp[size_madeCells,p2])]
 rw[htake]at hmade;obtain⟨ys,k1,k2⟩:=zGa (I:=I) (w:=w) (β:=β) (place':=λi=>Aa (i*sz,sz)) (λi x hx=>hx) ps (parts.toList.map λp=>(p.1,a.eval p.2)) _ _ q cs hl hps hmade hf hq;have hlen:cs.length=len*sz:=by rw[zSj _ _ _ _ _ hf,zB0,p2]
 have hyl:ys.length=len*sz:=by rw[<-k2.length,hlen]
 refine⟨ys,?_,hyl,hlen,k2⟩;have hn0:¬(len*sz>2^24):=by simp only[Nat.reducePow];omega
 have hmc:madeCells v.cells (len*sz)=(madeCells v.cells (len*sz)).toList.toArray:=by simp
 have hfl:(parts.map λ(i,x)=>(i,a.eval x)).toList=parts.toList.map λp=>(p.1,a.eval p.2):=by simp
 by_cases h0:len*sz=0
 ·have e0:(Array.range (len*sz)).map ((#[]:Array Value)[· %(#[]:Array Value).size]!)=madeCells v.cells (len*sz):=by simp[h0,madeCells,Array.range_zero']
  simp only[execOp,ho,Instr.buildSlice,Ae,run_underlying hu,Ag,zCf hsz,if_neg hn0,if_pos h0,An,e0,hfl];rw[hmc,k1];simp[newRow]
 have e0:(Array.range (len*sz)).map (v.cells[· %v.cells.size]!)=madeCells v.cells (len*sz):=rfl;simp only[execOp,ho,Instr.buildSlice,Ae,run_underlying hu,Ag,zCf hsz,if_neg hn0,if_neg h0,An,zEr h1 h2,e0,hfl];rw[hmc,k1];simp[newRow]
theorem zLg(h:RelT I w β sl a.tmps.toList)(hs:SRw β I w st)(hi:ImB I w)(hn:β st.length=Ac)(o:Oper)(hl:zY T o.op=Ad){p:Prop}{b:Bk}{d:D}{fz:List Nat}(he:aeff P T o.op o.type (evD sl) st= .new p b d fz)(hp:p):
  ∃v w' β' I',(execOp a.eval o).run P w= .ok (.value v) w'/\OutN β I w st [b] fz β' I' w'/\Rel I' w' β' d v:=by
 generalize ho:o.op=op at hl he;cases op<;>simp only[zY,AJ]at hl<;>simp only[aeff,reduceCtorEq]at he;case alloc e=>
  split at he
  ·rename_i z hz;simp only[Eff.new.injEq]at he;obtain⟨_,rfl,rfl,rfl⟩:=he;obtain⟨i,v,h1,h2,h3,h4,h5⟩:=zCu (P:=P) (I:=I) (w:=w) (β:=β) hz;have h3:=RelL.mono (I':=fixI I β st []) (w':=w.alloc (.cells v.cells e)) ((zAg (β:=β) (st:=st) []).trans (Fix.ext (Ext.alloc w (.cells v.cells e)) λ_ _ h=>h)) β (addB β st.length (Aa (w.heap.size,0))) (zP6 _ hn) _ _ h3;refine⟨.pointer (Aa ⟨w.heap.size,0,Ac⟩),w.alloc (.cells v.cells e),_,_,?_,OutN.one (g:=w.heap.size) (cap:=0) (cur:=v.cells.toList) hs hi hn [] (Ext.alloc w _) (Af _) (zEf w _ _) (by simp[h4]) rfl ?_ (by simp) (by simp[maxLen]),?_⟩
   ·simp[execOp,ho,Instr.alloc,zEr h1 h2,newVar,newRow]
   ·simp only[Bk.nob,Bool.false_and,Al,if_false];rw[h3.length,A_];exact h3
   simp only[Rel];exact⟨_,_,zA4 _ _,rfl⟩
  cases he
 case box e x=>
  split at he
  ·rename_i hv;simp only[Eff.new.injEq]at he;obtain⟨_,rfl,rfl,rfl⟩:=he;have h3:=zE4 hv (zAi h x);have h3':=RelL.mono (I':=fixI I β st []) (w':=w.alloc (.cells (a.eval x).cells e)) ((zAg (β:=β) (st:=st) []).trans (Fix.ext (Ext.alloc w (.cells (a.eval x).cells e)) λ_ _ h=>h)) β (addB β st.length (Aa (w.heap.size,0))) (zP6 _ hn) _ _ h3;refine⟨.pointer (Aa ⟨w.heap.size,0,Ac⟩),w.alloc (.cells (a.eval x).cells e),_,_,?_,OutN.one (g:=w.heap.size) (cap:=0) (cur:=(a.eval x).cells.toList) hs hi hn [] (Ext.alloc w _) (Af _) (zEf w _ _) (by simp[h3.length]) rfl ?_ (by simp) (by simp[maxLen]),?_⟩
   ·simp[execOp,ho,Instr.box,newVar,newRow]
   ·simp only[Bk.nob,Bool.false_and,Al,if_false];rw[h3.length,A_];exact h3'
   simp only[Rel];exact⟨_,_,zA4 _ _,rfl⟩
  cases he
 case load=>
  split at he
  ·rcases zDs he with h|⟨_,_,h⟩<;>cases h
  ·split at he
   ·split at he
    ·cases he
    rcases zDs he with h|⟨_,_,h⟩<;>cases h
   cases he
  cases he
 case store=>rcases zH5 he with h|⟨_,_,_,_,h⟩<;>cases h
 case mapUpdate=>rcases zA8 he with h|⟨_,_,_,_,h⟩<;>cases h
 case insert=>rcases zA8 he with h|⟨_,_,_,_,h⟩<;>cases h
 case lookup=>rcases zFl he with h|⟨_,_,h⟩<;>cases h
 case convert=>
  split at he
  ·rcases zGe he with h|⟨_,_,h⟩<;>cases h
  simp only[AU]at hl;rename_i hne;exact absurd hl hne
 case makeMap t r=>
  have fin:(Instr.makeMap t (r.map a.eval)).run P w= .ok (.map (Aa w.heap.size)) (w.alloc (.map #[] 0))->Eff.new True ⟨[],t,0,!zGj P T t,Ad, .map []⟩ (.mref st.length) []=Eff.new p b d fz->∃v w' β' I',(execOp a.eval o).run P w= .ok (.value v) w'/\OutN β I w st [b] fz β' I' w'/\Rel I' w' β' d v:=by
   intro hr he;simp only[Eff.new.injEq]at he;obtain⟨_,rfl,rfl,rfl⟩:=he;have hh:(w.alloc (.map #[] 0)).heap[w.heap.size]?=Aa (.map #[] 0):=heap_alloc_new w _;refine⟨_,_,addB β st.length (Aa (w.heap.size,0)),fixI I β st [],by simp only[execOp,ho,Ae,hr];rfl,OutN.new (g:=w.heap.size) (cap:=0) hs hi hn [] (Ext.alloc w _) (Af _) ?_,?_⟩
   ·refine OwnM.r (ks:=[]) ⟨[],⟨#[],0,hh,rfl,rfl,by simp,by simp⟩,by simp only[RelT]⟩ rfl
   simp only[Rel];exact⟨_,_,zA4 _ _,rfl⟩
  split at he
  ·rename_i hr;have:r=none:=by cases r<;>simp_all
   subst this;exact fin (by simp[Instr.makeMap]) he
  ·rename_i hu hr;obtain⟨x,rfl,hx⟩:=As.1 hr;have hv:=zAi h x;rw[hx]at hv;simp only[Rel]at hv;exact fin (by simp[Instr.makeMap,Ae,run_underlying hu,hv,asInt,asIntOf]) he
  cases he
 case makeSlice t l c=>
  unfold zEg at he;split at he
  ·rename_i e kl L kc C hu hL hC;split at he
   ·rename_i i z hi' hz;simp only[Eff.new.injEq]at he;obtain⟨rfl,rfl,rfl,rfl⟩:=he;obtain⟨p1,p2,p3,p4,p5,p6⟩:=hp;obtain⟨i2,v,h1,h2,h3,h4,h5⟩:=zCu (P:=P) (I:=I) (w:=w) (β:=β) hz;rw[hi']at h1;cases h1;have eL:=zAi h l;have eC:=zAi h c;rw[hL]at eL;rw[hC]at eC;simp only[Rel]at eL eC;have hr:=run_make (P:=P) w t e i v hu hi' h2 kl kc L C p1 p2 p3 (by omega);have hle:L.toNat*i.size<=C.toNat*i.size:=Ay _ (by omega);have hkd:(kdOf (zGj P T t)).isMap=false:=by unfold kdOf;split<;>rfl
    refine⟨_,_,_,_,by simp only[execOp,ho,eL,eC,Ae,hr];rfl,OutN.one (g:=w.heap.size) (cap:=C.toNat) (cur:=(madeCells v.cells (C.toNat*i.size)).toList) hs hi hn [] (Ext.alloc w _) (Af _) (zEf w _ _) ?_ hkd ?_ (by simp[size_madeCells]) (by simp[maxLen];omega),?_⟩
    ·simp[zB0,size_madeCells,p6,hle]
    ·simp only[zB0];exact zWp h4 h5 (by omega) (by rw[p6];exact hle)
    simp only[Rel];exact .inr (.inr ⟨_,_,_,zA4 _ _,rfl,by omega,by simp[maxLen];omega,λ_=>by simp⟩)
   cases he
  cases he
 case buildSlice t len parts=>
  split at he
  ·rename_i hsh;unfold zC1 at he;split at he
   ·rename_i e hu;split at he
    ·rename_i sz z hsz hz;split at he
     ·rename_i q cs hf;simp only[Eff.new.injEq]at he;obtain⟨rfl,rfl,rfl,rfl⟩:=he;obtain⟨hq,p1,p2,p3,p4⟩:=hp;obtain⟨ys,r1,r2,r3,r4⟩:=zNf (I:=I) (w:=w) (β:=β) (a:=a) ho hu hsz hz _ (by simp) (λj i d i' v hd hv=>zHc h parts.toList j i d i' v hd hv) hf hq p1 p2 p3;refine⟨.slice (Aa ⟨w.heap.size,0,Ac⟩) len len,w.alloc (.cells ys.toArray e),_,_,r1,OutN.one (g:=w.heap.size) (cap:=len) (cur:=ys) hs hi hn [] (Ext.alloc w _) (Af _) (by have:=zEf w ys.toArray e;simpa using this) (by simp[r2,r3]) rfl ?_ (by simp[r2]) (by simp[maxLen];omega),?_⟩
      ·show RelL _ _ (addB β st.length (Aa (w.heap.size,len))) cs (ys.take cs.length);rw[show cs.length=ys.length by rw[r3,r2],A_];exact RelL.mono ((zAg (β:=β) (st:=st) []).trans (Fix.ext (Ext.alloc w _) λ_ _ h=>h)) β _ (zP6 _ hn) _ _ r4
      simp only[Rel];exact .inr (.inr ⟨_,_,_,zA4 _ _,rfl,Af _,by simp[maxLen];omega,λ_=>by simp⟩)
     cases he
    cases he
   cases he
  unfold zCs at he;split at he
  ·rename_i e hu;split at he
   ·rename_i sz z ps ks hsz hz hps;split at he
    ·rename_i q cs hf;simp only[Eff.new.injEq]at he;obtain⟨rfl,rfl,rfl,rfl⟩:=he;obtain⟨hq,p1,p2,p3,p4⟩:=hp;obtain⟨f1,f2⟩:=zGi hs _ _ _ hps;obtain⟨ys,r1,r2,r3,r4⟩:=zNf (I:=fixI I β st ks) (w:=w) (β:=noB) (a:=a) ho hu hsz hz ps (by rw[f1];simp) (λj i d i' v hd hv=>by
      have hj:j<(parts.toList.map λp=>(p.1,evD sl p.2)).length:=by rw[<-f1];exact(Ak.1 hd).1
      obtain⟨m1,m2⟩:=zHc h parts.toList j _ _ i' v (Aj hj) hv;obtain⟨m3,m4⟩:=f2 j _ _ i d v (Aj hj) hd m2;exact⟨m1.trans m3.symm,m4⟩) hf hq p1 p2 p3
     refine⟨.slice (Aa ⟨w.heap.size,0,Ac⟩) len len,w.alloc (.cells ys.toArray e),_,_,r1,OutN.one (g:=w.heap.size) (cap:=len) (cur:=ys) hs hi hn ks (Ext.alloc w _) (Af _) (by have:=zEf w ys.toArray e;simpa using this) (by simp[r2,r3]) rfl ?_ (by simp[r2]) (by simp[maxLen];omega),?_⟩
     ·show RelL _ _ noB cs (ys.take cs.length);rw[show cs.length=ys.length by rw[r3,r2],A_];exact RelL.mono (Fix.ext (Ext.alloc w _) λ_ _ h=>h) noB noB (BeLe.refl _) _ _ r4
     simp only[Rel];exact .inr (.inr ⟨_,_,_,zA4 _ _,rfl,Af _,by simp[maxLen];omega,λ_=>by simp⟩)
    cases he
   cases he
  cases he
 case call c=>
  obtain⟨callee,args,ts⟩:=c;split at he
  ·exfalso;split at he
   ·split at he
    ·rcases zHh he with h|⟨_,_,h⟩<;>cases h
    unfold aLen at he;split at he<;>first|cases he|(split at he<;>cases he)
   cases he
  ·exfalso;split at he<;>cases he
  ·exfalso;split at he<;>cases he
  ·rename_i hcal;subst hcal;split at he
   ·rename_i t u s x hts hargs;have e1:ts=#[t,u]:=by apply Aw;exact hts
    have e2:args=#[s,x]:=by apply Aw;exact hargs
    subst e2;obtain⟨e,e',i,z,xs,m,hu,hi',hz,hk,hsrc⟩:=app_src (x:=x) hs h he (by simp);have hlx:xs.length=m*i.size:=by
     rcases hk with hk|hk<;>
     ·unfold aApp at hk;grind
    obtain⟨vs,sh',hsh',hk,k3,ksrc⟩:=hsrc hlx;unfold aApp at hk;split at hk
    ·rename_i hsv;simp only[Eff.new.injEq]at hk;obtain⟨rfl,rfl,rfl,rfl⟩:=hk;obtain⟨p1,p2,p3,p4,p5,p6⟩:=hp;obtain⟨i2,v,h1,h2,h3,h4,h5⟩:=zCu (P:=P) (I:=I) (w:=w) (β:=β) hz;rw[hi']at h1;cases h1;have es:=zZf (zAi h s);rw[hsv]at es;simp only[Rel]at es;obtain⟨v',w',r1,r2,r3⟩:=zGv (P:=P) (w:=w) (a:=a) ho e1 hu hi' h2 (by rw[<-p6,h4];simp) p2 p3 (base:=w.heap.size) (n:=0) (xs:=[]) es (World.ownsRow_nil w w.heap.size e i.size) (Af _) ksrc (by rw[<-k3.length,p1]) k3.ones (by simpa using p5);have hext:Ext w w':=⟨⟨r3.os,r3.tape,r3.output,r3.size,λk hk=>r3.block k hk (by simp[AP])⟩,zB7 _ _ r1⟩;have hvl:vs.length=m*i.size:=by rw[<-k3.length,p1]
     have hkd:(kdOf sh').isMap=false:=by unfold kdOf;split<;>rfl
     obtain⟨q1,⟨rfl,q2⟩|⟨g,cap,cur,rfl,q2,q3,q4,q5,q6,q7⟩⟩:=r2
     ·have hm0:m=0:=by omega
      subst hm0;exact⟨_,_,_,_,r1,OutN.none' hext hn _,by simp only[Rel];exact .inl ⟨by simp,by simp,by simp⟩⟩
     refine⟨_,_,_,_,r1,OutN.one (g:=g) (cap:=cap) (cur:=cur.toList) hs hi hn [] hext q2 (by simpa using q3) ?_ hkd ?_ (by simp[q6]) q5,?_⟩
     ·have:m*i.size<=cap*i.size:=Ay _ (by omega);simp[p1,q6,this]
     ·show RelL _ _ (if(Ab&&!(kdOf sh').isSh)=Ab then noB else _) xs (cur.toList.take xs.length);rw[p1,show m*i.size=(0+m)*i.size by simp,q7];simp only[List.nil_append];have hfx:=(zAg (I:=I) (w:=w) (β:=β) (st:=st) []).trans (Fix.ext (I':=fixI I β st []) hext λ_ _ h=>h);cases sh'
      ·exact RelL.mono hfx noB noB (BeLe.refl _) _ _ k3
      exact RelL.mono hfx β _ (zP6 _ hn) _ _ k3
     simp only[Rel,AO];exact .inr (.inr ⟨_,_,_,zA4 _ _,rfl,by omega,q5,λ_=>by simp⟩)
    ·split at hk<;>cases hk
    cases hk
   cases he
  ·split at he
   ·rcases zC0 he with h|⟨_,_,_,_,h⟩<;>cases h
   cases he
  ·split at he
   ·rcases zB6 he with h|⟨_,_,_,_,h⟩<;>cases h
   cases he
  ·cases he
  ·split at he
   ·rcases zBc he with h|⟨_,_,h,_⟩|⟨h,_⟩<;>cases h
   cases he
  split at he
  ·split at he
   ·rcases zBc he with h|⟨_,_,h,_⟩|⟨h,_⟩<;>cases h
   cases he
  cases he
end
section
variable {P : Program} {T : Par} {I I' : Im} {w w' : World} {β β' : Be} {sl : List D} {st : List Bk} {a : Act}
theorem zDm{f:FuncId}{fn:Func}{c:Code}(hf:P.funcs[f]?=Aa fn)(hname:(fn.name== "runtime.NumGoroutine")=Ad)(hb:fn.body=Aa c)(args:Array Value)(w:World):
  (callFunc f args).run P w= .ok (.enter f args) w:=by
 have h1:fn.name≠ "runtime.NumGoroutine" :=by simpa using hname
 simp[callFunc,hf,h1,hb]
def zBi(P:Program)(T:Par):Prop:=∀t name f,T.meth t name=Aa f->∀v (W:World),(method (P.types.size+Made.depth) t v name).run P W= .ok (f,v) W
theorem zKm(hM:zBi P T)(h:RelT I w β sl a.tmps.toList)(o:Oper)(hl:zY T o.op=Ad){e:Eff}(hne:e≠ .bad)(hk:(∃f xs ks,e= .call f xs ks)\/∃f xs,e= .act f xs)(he:aeff P T o.op o.type (evD sl) st=e):
  ∃f args vs,zJq P T.imp f args st=e/\RelT I w β args vs/\(execOp a.eval o).run P w= .ok (.enter f vs.toArray) w:=by
 generalize ho:o.op=op at he hl;have key:∀f args (vs:List Value),zJq P T.imp f args st=e->∃fn c,P.funcs[f]?=Aa fn/\(fn.name== "runtime.NumGoroutine")=Ad/\fn.body=Aa c:=by
  intro f args vs h;rcases zBc h with h|⟨_,_,_,_,_,h⟩|⟨_,_,h⟩;all_goals grind
 have no:∀{p d},e≠ .get p d/\(∀p b d fz,e≠ .new p b d fz)/\∀p k b fz,e≠ .put p k b fz:=by
  grind
 cases op<;>simp only[zY,AJ]at hl<;>first|(simp only[aeff]at he;exact absurd he.symm hne)|skip
 case alloc=>simp only[aeff]at he;split at he;exact absurd he.symm ((no (p:=True) (d:= .unk)).2.1 _ _ _ _);exact absurd he.symm hne
 case box=>simp only[aeff]at he;split at he;exact absurd he.symm ((no (p:=True) (d:= .unk)).2.1 _ _ _ _);exact absurd he.symm hne
 case buildSlice=>
  simp only[aeff]at he;rcases zE6 he with h|⟨_,_,_,_,h⟩
  ·exact absurd h hne
  exact absurd h ((no (p:=True) (d:= .unk)).2.1 _ _ _ _)
 case makeSlice=>
  simp only[aeff]at he;rcases zEx he with h|⟨_,_,_,_,h⟩
  ·exact absurd h hne
  exact absurd h ((no (p:=True) (d:= .unk)).2.1 _ _ _ _)
 case makeMap=>
  simp only[aeff]at he;split at he
  ·exact absurd he.symm ((no (p:=True) (d:= .unk)).2.1 _ _ _ _)
  ·exact absurd he.symm ((no (p:=True) (d:= .unk)).2.1 _ _ _ _)
  exact absurd he.symm hne
 case mapUpdate=>
  simp only[aeff]at he;rcases zA8 he with h|⟨_,_,_,_,h⟩
  ·exact absurd h hne
  exact absurd h ((no (p:=True) (d:= .unk)).2.2 _ _ _ _)
 case insert=>
  simp only[aeff]at he;rcases zA8 he with h|⟨_,_,_,_,h⟩
  ·exact absurd h hne
  exact absurd h ((no (p:=True) (d:= .unk)).2.2 _ _ _ _)
 case lookup=>
  simp only[aeff]at he;rcases zFl he with h|⟨_,_,h⟩
  ·exact absurd h hne
  exact absurd h no.1
 case convert=>
  simp only[AU]at hl;simp only[aeff,hl,if_true]at he;rcases zGe he with h|⟨_,_,h⟩
  ·exact absurd h hne
  exact absurd h no.1
 case load=>
  simp only[aeff]at he;split at he
  ·rcases zDs he with h|⟨_,_,h⟩
   ·exact absurd h hne
   exact absurd h no.1
  ·split at he
   ·split at he
    ·exact absurd he.symm hne
    rcases zDs he with h|⟨_,_,h⟩
    ·exact absurd h hne
    exact absurd h no.1
   exact absurd he.symm hne
  exact absurd he.symm hne
 case store=>
  simp only[aeff]at he;rcases zH5 he with h|⟨_,_,_,_,h⟩
  ·exact absurd h hne
  exact absurd h ((no (p:=True) (d:= .unk)).2.2 _ _ _ _)
 case call c=>
  obtain⟨callee,args,ts⟩:=c;simp only[aeff]at he;have hargs:=zLz h args.toList;split at he
  ·split at he
   ·split at he
    ·rcases zHh he with h|⟨_,_,h⟩
     ·exact absurd h hne
     exact absurd h no.1
    unfold aLen at he;exfalso;split at he;all_goals first
     |(subst he;rcases hk with⟨_,_,_,hk⟩|⟨_,_,hk⟩<;>cases hk;done)
     |(split at he<;>subst he<;>rcases hk with⟨_,_,_,hk⟩|⟨_,_,hk⟩<;>cases hk)
   exact absurd he.symm hne
  ·exfalso;split at he<;>subst he<;>rcases hk with⟨_,_,_,hk⟩|⟨_,_,hk⟩<;>cases hk
  ·exfalso;split at he<;>subst he<;>rcases hk with⟨_,_,_,hk⟩|⟨_,_,hk⟩<;>cases hk
  ·split at he
   ·exfalso;rcases zKp he with h|⟨_,_,_,_,h⟩|⟨_,_,_,_,h⟩
    ·exact hne h
    ·rw[h]at hk;rcases hk with⟨_,_,_,hk⟩|⟨_,_,hk⟩<;>cases hk
    rw[h]at hk;rcases hk with⟨_,_,_,hk⟩|⟨_,_,hk⟩<;>cases hk
   exact absurd he.symm hne
  ·split at he
   ·exfalso;rcases zC0 he with h|⟨_,_,_,_,h⟩
    ·exact hne h
    rw[h]at hk;rcases hk with⟨_,_,_,hk⟩|⟨_,_,hk⟩<;>cases hk
   exact absurd he.symm hne
  ·split at he
   ·exfalso;rcases zB6 he with h|⟨_,_,_,_,h⟩
    ·exact hne h
    rw[h]at hk;rcases hk with⟨_,_,_,hk⟩|⟨_,_,hk⟩<;>cases hk
   exact absurd he.symm hne
  ·exact absurd he.symm hne
  ·rename_i f;split at he
   ·rename_i g cap hg;have hf:=zAi h f;rw[hg]at hf;simp only[Rel,RelT]at hf;obtain⟨vs,us,hv,rfl,hu⟩:=hf;obtain⟨fn,c,k1,k2,k3⟩:=key g _ [] he;refine⟨g,_,args.toList.map a.eval++us,he,hargs.append hu,?_⟩;have hr:=zDm (P:=P) k1 k2 k3 ((args.toList.map a.eval++us).toArray) w;have e1:(#[]++args.map a.eval)++us.toArray=(args.toList.map a.eval++us).toArray:=by
     apply Aw;simp
    simp only[execOp,ho,resolve,hv,Deferred.ofValue,Ae,An,Ag,invoke];rw[e1,hr]
   exact absurd he.symm hne
  rename_i r name;split at he
  ·rename_i t d hd;split at he
   ·rename_i f hf;have hr:=zAi h r;rw[hd]at hr;simp only[Rel]at hr;obtain⟨u,hu,hrel⟩:=hr;obtain⟨fn,c,k1,k2,k3⟩:=key f _ [] he;refine⟨f,_,u::args.toList.map a.eval,he,by simp only[RelT];exact⟨u,_,rfl,hrel,hargs⟩,?_⟩;have hr:=zDm (P:=P) k1 k2 k3 ((u::args.toList.map a.eval).toArray) w;have hm:=hM t name f hf u w;have e0:(#[a.eval r]++args.map a.eval)[0]?=Aa (.iface t u):=by rw[hu];rw[<-AN];rw[Array.toList_append];rfl
    have e1:#[u]++(#[a.eval r]++args.map a.eval).extract 1 (#[a.eval r]++args.map a.eval).size=(u::args.toList.map a.eval).toArray:=by
     simp_all [Aw,Bh]
    simp only[execOp,ho,resolve,Ae,An,Ag,invoke,e0,callMethod];rw[show(program:Sem Program).run P w= .ok P w from rfl];simp only[Ag,hm,Ae,e1,hr]
   exact absurd he.symm hne
  exact absurd he.symm hne
mutual
theorem zD0{γ β':Be}{n:Nat}(hg:∀k x,γ k=Aa x->β' (n+k)=Aa x):∀(d:D)(v:Value),Rel I w γ d v->Rel I w β' (zBf n d) v
 | .unk,_,_=>by simp only[zBf,Rel]
 | .val u,v,h=>by simp only[zBf,Rel]at h⊢;exact h
 | .agg cs,v,h=>by simp only[zBf,Rel]at h⊢;obtain⟨vs,h1,h2⟩:=h;exact⟨vs,h1,zMr hg cs vs h2⟩
 | .tup cs,v,h=>by simp only[zBf,Rel]at h⊢;obtain⟨vs,h1,h2⟩:=h;exact⟨vs,h1,zFz hg cs vs h2⟩
 | .row cs n,v,h=>by simp only[zBf,Rel]at h⊢;exact h
 | .ptr cs,v,h=>by simp only[zBf,Rel]at h⊢;exact h
 | .clo f x y,v,h=>by simp only[zBf,Rel]at h⊢;obtain⟨vs,us,h1,h2,h3⟩:=h;exact⟨vs,us,h1,zFz hg x vs h2,zFz hg y us h3⟩
 | .ifc t d,v,h=>by simp only[zBf,Rel]at h⊢;obtain⟨u,h1,h2⟩:=h;exact⟨u,h1,zD0 hg d u h2⟩
 | .own k off,v,h=>by simp only[zBf,Rel]at h⊢;obtain⟨b,c,h1,h2⟩:=h;exact⟨b,c,hg _ _ h1,h2⟩
 | .mref k,v,h=>by simp only[zBf,Rel]at h⊢;obtain⟨b,c,h1,h2⟩:=h;exact⟨b,c,hg _ _ h1,h2⟩
 | .mfz ks cs,v,h=>by simp only[zBf,Rel]at h⊢;exact h
 | .fx d,v,h=>by simp only[zBf,Rel]at h⊢;exact h
 | .osr k off n m wh cs,v,h=>by
  simp only[zBf,Rel]at h⊢;grind
 | .osl k off n m wh,v,h=>by
  simp only[zBf,Rel]at h⊢;grind
theorem zMr{γ β':Be}{n:Nat}(hg:∀k x,γ k=Aa x->β' (n+k)=Aa x):∀(ds:List D)(vs:List Value),RelL I w γ ds vs->RelL I w β' (zFh n ds) vs
 |[],vs,h=>by simp only[zFh,RelL]at h⊢;exact h
 |d::ds,vs,h=>by simp only[zFh,RelL]at h⊢;obtain⟨v,us,h1,h2,h3,h4⟩:=h;exact⟨v,us,h1,h2,zD0 hg d v h3,zMr hg ds us h4⟩
theorem zFz{γ β':Be}{n:Nat}(hg:∀k x,γ k=Aa x->β' (n+k)=Aa x):∀(ds:List D)(vs:List Value),RelT I w γ ds vs->RelT I w β' (zFh n ds) vs
 |[],vs,h=>by simp only[zFh,RelT]at h⊢;exact h
 |d::ds,vs,h=>by simp only[zFh,RelT]at h⊢;obtain⟨v,us,h1,h3,h4⟩:=h;exact⟨v,us,h1,zD0 hg d v h3,zFz hg ds us h4⟩
end
theorem zN2(hs:SRw β I w st)(hi:ImB I w)(hg:Gl I w){f:FuncId}{args:List D}{news:List Bk}{x:D}{fz:List Nat}{vs:List Value}(hn:∀j,j<news.length->β (st.length+j)=Ac)(hc:Pure P f args news x)(hr:RelT (fixI I β st fz) w noB args vs):
  Calls P f vs.toArray w λe w'=>∃v β' I',e= .returned v/\OutN β I w st news fz β' I' w'/\Rel I' w' β' (if news.isEmpty then x else zBf st.length x) v:=by
 refine(hc _ w vs hr (zDt hs hi fz) (hg.mono (zAg fz))).mono ?_;rintro e w' ⟨v,I',γ,rfl,h1,h2,h3,h4,h5,h6,h7,h8,h9,h10,h11⟩;refine⟨v,λk=>if st.length<=k/\k<st.length+news.length then γ (k-st.length)else β k,I',rfl,⟨h1,(zAg fz).trans h3,λk hk=>?_,λk b c k1 k2 hk=>?_,λk k' b c c' k1 k2 k3 k4 hk hk'=>?_,λb o hb=>h4 b o hb,λ_=>h2⟩,?_⟩
 ·grind
 ·rw[if_pos ⟨k1,k2⟩]at hk;refine⟨h5 _ _ _ hk,?_⟩;obtain⟨e,m1,m2⟩:=h6 _ _ _ hk;refine⟨e,m1,?_,λj hj=>h8 _ _ _ j e hk m1 hj⟩;have ha:=h11 e (A5 m1);have hkd:e.kd.isMap=false:=by rw[ha.2];rfl
  have hnb:e.nob=true:=by unfold Bk.nob;rw[ha.1,ha.2];rfl
  obtain⟨cur,c1,c2,c3,c4⟩:=m2.c hkd;rw[hnb]at c3;exact OwnC.r ⟨cur,c1,c2,by rw[hnb];exact c3,c4⟩ hkd
 ·rw[if_pos ⟨k1,k2⟩]at hk;rw[if_pos ⟨k3,k4⟩]at hk'
  have:=h7 _ _ _ _ _ hk hk'
  omega
 split
 ·rename_i hemp;have hnil:news=[]:=by simpa using hemp
  refine Rel.mono (Fix.refl _ _) γ _ (λk y hy=>?_) _ _ h10;grind
 grind [zD0]
end
section
variable {P : Program} {T : Par} {I I' : Im} {w w' : World} {β β' : Be} {sl : List D} {st : List Bk} {a : Act}
mutual
theorem Rel.congr:∀(d:D)(v:Value),(∀k x,refs k d=Ab->β k=Aa x->β' k=Aa x)->Rel I w β d v->Rel I w β' d v
 | .unk,_,_,_=>by simp only[Rel]
 | .val u,v,_,h=>by simp only[Rel]at h⊢;exact h
 | .agg cs,v,hb,h=>by simp only[Rel]at h⊢;obtain⟨vs,h1,h2⟩:=h;exact⟨vs,h1,RelL.congr cs vs (λk x hk=>hb k x (by simpa only[refs]using hk)) h2⟩
 | .tup cs,v,hb,h=>by simp only[Rel]at h⊢;obtain⟨vs,h1,h2⟩:=h;exact⟨vs,h1,RelT.congr cs vs (λk x hk=>hb k x (by simpa only[refs]using hk)) h2⟩
 | .row cs n,v,_,h=>by simp only[Rel]at h⊢;exact h
 | .ptr cs,v,_,h=>by simp only[Rel]at h⊢;exact h
 | .clo f p q,v,hb,h=>by
  simp only[Rel]at h⊢;obtain⟨vs,us,h1,h2,h3⟩:=h;exact⟨vs,us,h1,RelT.congr p vs (λk x hk=>hb k x (by simp only[refs,hk,Bool.true_or])) h2,RelT.congr q us (λk x hk=>hb k x (by simp only[refs,hk,Bool.or_true])) h3⟩
 | .ifc t d,v,hb,h=>by simp only[Rel]at h⊢;obtain⟨u,h1,h2⟩:=h;exact⟨u,h1,Rel.congr d u (λk x hk=>hb k x (by simpa only[refs]using hk)) h2⟩
 | .own k off,v,hb,h=>by simp only[Rel]at h⊢;obtain⟨b,c,h1,h2⟩:=h;exact⟨b,c,hb k _ (by simp[refs]) h1,h2⟩
 | .mref k,v,hb,h=>by simp only[Rel]at h⊢;obtain⟨b,c,h1,h2⟩:=h;exact⟨b,c,hb k _ (by simp[refs]) h1,h2⟩
 | .mfz ks cs,v,_,h=>by simp only[Rel]at h⊢;exact h
 | .fx d,v,_,h=>by simp only[Rel]at h⊢;exact h
 | .osr k off n m wh cs,v,hb,h=>by
  simp only[Rel]at h⊢;grind [refs]
 | .osl k off n m wh,v,hb,h=>by
  simp only[Rel]at h⊢;grind [refs]
theorem RelL.congr:∀(ds:List D)(vs:List Value),(∀k x,zBd k ds=Ab->β k=Aa x->β' k=Aa x)->RelL I w β ds vs->RelL I w β' ds vs
 |[],vs,_,h=>by simp only[RelL]at h⊢;exact h
 |d::ds,vs,hb,h=>by
  simp only[RelL]at h⊢;obtain⟨v,us,h1,h2,h3,h4⟩:=h;exact⟨v,us,h1,h2,Rel.congr d v (λk x hk=>hb k x (by simp only[zBd,hk,Bool.true_or])) h3,RelL.congr ds us (λk x hk=>hb k x (by simp only[zBd,hk,Bool.or_true])) h4⟩
theorem RelT.congr:∀(ds:List D)(vs:List Value),(∀k x,zBd k ds=Ab->β k=Aa x->β' k=Aa x)->RelT I w β ds vs->RelT I w β' ds vs
 |[],vs,_,h=>by simp only[RelT]at h⊢;exact h
 |d::ds,vs,hb,h=>by
  simp only[RelT]at h⊢;obtain⟨v,us,h1,h3,h4⟩:=h;exact⟨v,us,h1,Rel.congr d v (λk x hk=>hb k x (by simp only[zBd,hk,Bool.true_or])) h3,RelT.congr ds us (λk x hk=>hb k x (by simp only[zBd,hk,Bool.or_true])) h4⟩
end
theorem zHl{f:D->D}(hf:∀d v,Rel I w β d v->Rel I w β' (f d) v):(∀{ds:List D}{vs:List Value},RelT I w β ds vs->RelT I w β' (ds.map f) vs)/\∀{ds:List D}{vs:List Value},RelL I w β ds vs->RelL I w β' (ds.map f) vs:=by
 constructor
 ·intro ds;induction ds with
  |nil=>intro vs h;simp only[RelT]at h;subst h;simp only[AD,RelT]
  |cons d ds ih=>
   intro vs h;simp only[RelT]at h;obtain⟨v,us,rfl,h3,h4⟩:=h;simp only[Au,RelT];grind
 intro ds;induction ds with
 |nil=>intro vs h;simp only[RelL]at h;subst h;simp only[AD,RelL]
 |cons d ds ih=>
  intro vs h;simp only[RelL]at h;obtain⟨v,us,rfl,h2,h3,h4⟩:=h;simp only[Au,RelL];grind
theorem zHm{k:Nat}(hb:∀j x,j≠k->β j=Aa x->β' j=Aa x)(d:D)(v:Value)(h:Rel I w β d v):Rel I w β' (zA6 k d) v:=by
 unfold zA6;split
 ·split
  ·simp only[Rel]at h⊢;exact h.2
  simp only[Rel]
 rename_i hr;refine Rel.congr d v (λj x hj hx=>hb j x (λe=>?_) hx) h;subst e;exact hr hj
theorem zS7{ch:List Nat}(hb:∀j x,j∉ch->β j=Aa x->β' j=Aa x)(d:D)(v:Value)(h:Rel I w β d v):Rel I w β' (zCm ch d) v:=by
 unfold zCm;split
 ·simp only[Rel]
 rename_i hr;refine Rel.congr d v (λj x hj hx=>hb j x (λe=>?_) hx) h;grind
theorem RelT.set{ds:List D}{vs:List Value}(h:RelT I w β ds vs){d:D}{v:Value}(hd:Rel I w β d v)(i:Nat):RelT I w β (ds.set i d) (vs.set i v):=by
 refine RelT.of_get (by simp[h.length]) λj x y hx hy=>?_;rw[Bc]at hx hy;have hl:=h.length;split at hx
 ·grind
 rename_i hne;rw[if_neg hne]at hy;obtain⟨y',k1,k3⟩:=h.get j x hx;rw[hy]at k1;cases k1;exact k3
theorem zFi(h:RelT I w β sl a.tmps.toList){d:D}{v:Value}(hd:Rel I w β d v)(dst:Option Nat):RelT I w β (putD sl dst d) (a.put dst v).tmps.toList:=by
 cases dst with
 |none=>exact h
 |some i=>simpa[putD,Act.put]using h.set hd i
theorem zAa(ks:List Nat):∀st:List Bk,(zAo st ks).length=st.length:=by
 induction ks<;>simp_all [zAo]
theorem zBa(ks:List Nat):∀(st:List Bk)(k:Nat),(zAo st ks)[k]?=(st[k]?).map λe=>if k∈ks then{e with fz:=Ab}else e:=by
 induction ks with
 |nil=>intro st k;simp[zAo]
 |cons j ks ih=>
  intro st k;show(zAo (st.modify j _) ks)[k]?=_;grind
theorem Sim.outN{news:List Bk}{fz:List Nat}(h:Sim β I w sl st a.tmps.toList)(ho:OutN β I w st news fz β' I' w'){d:D}{v:Value}(hd:Rel I' w' β' d v)(dst:Option Nat):
  Sim β' I' w' (putD sl dst d) (zAo st fz++news) (a.put dst v).tmps.toList/\Stp β I w β' I' w':=by
 have hle:BeLe β β':=λk x hk=>by rw[ho.be k (.inl (h.dom k x hk))];exact hk
 have old:∀k b c,β' k=Aa (b,c)->k<st.length->β k=Aa (b,c):=λk b c hk hlt=>by rw[<-ho.be k (.inl hlt)];exact hk
 have cases3:∀k b c,β' k=Aa (b,c)->k<st.length\/(st.length<=k/\k<st.length+news.length):=by
  intro k b c hk;rcases AG k st.length with h1|h1
  ·exact .inl h1
  rcases AG k (st.length+news.length)with h2|h2
  ·exact .inr ⟨h1,h2⟩
  rw[ho.be k (.inr h2)]at hk;exact .inl (h.dom k _ hk)
 have oldlt:∀k b c,β k=Aa (b,c)->b<w.heap.size:=λk b c hk=>by
  obtain⟨e,_,h2⟩:=h.sr k b c hk;exact h2.lt
 refine⟨⟨zFi (RelT.mono ho.fix β β' hle _ _ h.rel) hd dst,λk b c hk=>?_,λk k' b c c' hk hk'=>?_,λk b c j e hk he hj=>?_,λk x hk=>?_,ho.imb h.imb,h.gl.mono ho.fix⟩,⟨ho.fix,ho.ext.size,λb hb _=>Below.block ho.ext.1 b hb,Below.os ho.ext.1,Below.tape ho.ext.1,Below.output ho.ext.1,ho.ext.2,λk b c hk=>?_,λb o hi=>?_⟩⟩
 ·rcases cases3 k b c hk with h1|⟨h1,h2⟩
  ·have hk0:=old k b c hk h1;obtain⟨e,k1,k2⟩:=h.sr k b c hk0;refine⟨if k∈fz then{e with fz:=Ab}else e,?_,?_⟩
   ·grind [AQ,zAa,zBa]
   have k3:=OwnRel.mono (β':=β') k2 (Below.block ho.ext.1 b (oldlt k b c hk0)) ho.fix hle;split
   ·exact k3.like rfl rfl rfl rfl rfl
   exact k3
  obtain⟨_,e,k1,k2,_⟩:=ho.nb k b c h1 h2 hk;grind [AV,zAa]
 ·rcases cases3 k b c hk with h1|⟨h1,h2⟩<;>rcases cases3 k' b c' hk' with h3|⟨h3,h4⟩
  ·exact h.inj k k' b c c' (old _ _ _ hk h1) (old _ _ _ hk' h3)
  ·have:=oldlt _ _ _ (old _ _ _ hk h1)
   have:=(ho.nb k' b c' h3 h4 hk').1
   omega
  ·have:=oldlt _ _ _ (old _ _ _ hk' h3)
   have:=(ho.nb k b c h1 h2 hk).1
   omega
  exact ho.inj k k' b c c' h1 h2 h3 h4 hk hk'
 ·rcases cases3 k b c hk with h1|⟨h1,h2⟩
  ·have hk0:=old k b c hk h1;rw[AQ (by rw[zAa];exact h1),zBa]at he;obtain⟨e0,he0,rfl⟩:=As.1 he;have hlt:=oldlt _ _ _ hk0;rcases ho.im b j hj with(hi|⟨k',hk',c',e',m1,m2,m3⟩)|hi
   ·have:=h.fz k b c j e0 hk0 he0 hi
    grind
   ·have:=h.inj k' k b c' c m1 hk0
    grind
   omega
  obtain⟨_,e',k1,_,k3⟩:=ho.nb k b c h1 h2 hk;grind [AV,zAa]
 ·grind [AF,zAa]
 ·rcases cases3 k b c hk with h1|⟨h1,h2⟩
  ·grind
  exact .inr (ho.nb k b c h1 h2 hk).1
 rcases ho.im b o hi with(hi|⟨k',_,c',_,m1,_⟩)|hi;all_goals grind
theorem zC5(b:Nat)(t:TypeId):∀(vs:List Value)(o:Nat)(w:World)(cur:List Value),w.heap[b]?=Aa (.cells cur.toArray t (0,0))->
  (w.setCells b o vs).heap[b]?=Aa (.cells (zC4 cur o vs).toArray t (0,0))/\(∀k,k≠b->(w.setCells b o vs).heap[k]?=w.heap[k]?)/\(w.setCells b o vs).heap.size=w.heap.size/\(w.setCells b o vs).os=w.os/\(w.setCells b o vs).tape=w.tape/\(w.setCells b o vs).output=w.output/\w.drawn<=(w.setCells b o vs).drawn
 |[],o,w,cur,h=>⟨h,λ_ _=>rfl,rfl,rfl,rfl,rfl,Af _⟩
 |v::vs,o,w,cur,h=>by
  have h1:=heap_setCell_same w b o cur.toArray t v h;rw[Bo]at h1;obtain⟨k1,k2,k3,k4,k5,k6⟩:=zC5 b t vs (o+1) (w.setCell ⟨b,o,Ac⟩ v) (cur.set o v) h1;refine⟨k1,λk hk=>(k2 k hk).trans (heap_setCell_other w ⟨b,o,Ac⟩ k v hk),k3.trans (by simp[World.setCell]),k4,k5,k6⟩
theorem zKz:∀(vs cur:List Value)(o n:Nat),o+vs.length<=n->(zC4 cur o vs).take n=zC4 (cur.take n) o vs
 |[],_,_,_,_=>rfl
 |v::vs,cur,o,n,h=>by
  simp only[List.length_cons]at h;rw[zC4,zC4,zKz vs _ (o+1) n (by omega)];rw[List.take_set]
theorem Sim.write{k:Nat}{e e':Bk}{ks:List Nat}{b c:Nat}(h:Sim β I w sl st a.tmps.toList)(hk:β k=Aa (b,c))(he:st[k]?=Aa e)(hfz:e.fz=Ad)(hnk:k∉ks)
  (s2:∀j,j≠b->w'.heap[j]?=w.heap[j]?)(s3:w'.heap.size=w.heap.size)(s4:w'.os=w.os)(s5:w'.tape=w.tape)(s6:w'.output=w.output/\w.drawn<=w'.drawn)
  (hown:Fix (fixI I β st ks) w (fixI I β st ks) w'->OwnRel (fixI I β st ks) w' β b c e')(dst:Option Nat)(v0:Value):
  Sim β (fixI I β st ks) w' (putD sl dst .unk) ((zAo st ks).set k e') (a.put dst v0).tmps.toList/\Stp β I w β (fixI I β st ks) w':=by
 have hnoI:∀j,¬fixI I β st ks b j:=by
  rintro j (hi|⟨k',hk',c',e',m1,m2,m3⟩)
  ·have:=(h.fz k b c j e hk he hi).1
   rw[hfz]at this;cases this
  have:=h.inj k' k b c' c m1 hk
  subst this;exact hnk hk'
 have hcell:∀b' o',b'≠b->w'.cell? ⟨b',o',Ac⟩=w.cell? ⟨b',o',Ac⟩:=λb' o' hne=>by
  simp only[World.cell?];rw[s2 b' hne]
 have hfix:Fix (fixI I β st ks) w (fixI I β st ks) w':=λb' o' hi=>⟨hi,λv hv=>by
  by_cases hb:b'=b
  ·subst hb;exact absurd hi (hnoI o')
  ·rw[hcell b' o' hb];exact hv,λmk mv hm=>by
  by_cases hb:b'=b
  ·subst hb;exact absurd hi (hnoI o')
  exact hm.of_heap (s2 b' hb)⟩
 have hfix0:Fix I w (fixI I β st ks) w':=(zAg ks).trans hfix;have hklt:k<st.length:=h.dom k _ hk;refine⟨⟨zFi (RelT.mono hfix0 β β (BeLe.refl _) _ _ h.rel) (by simp only[Rel]) dst,λj b' c' hj=>?_,h.inj,λj b' c' i e' hj he' hi=>?_,λj x hj=>by simpa[zAa]using h.dom j x hj,λb' o hi=>?_,h.gl.mono hfix0⟩,⟨hfix0,by rw[s3];exact Af _,λb' hb' hne=>s2 b' (λe=>hne k c (e▸hk)),s4,s5,s6.1,s6.2,λj b' c' hj=> .inl ⟨j,c',hj⟩,λb' o hi=>?_⟩⟩
 ·by_cases hjk:j=k
  ·grind [AW,zAa]
  obtain⟨e',m1,m2⟩:=h.sr j b' c' hj;have hbne:b'≠b:=λe=>hjk (h.inj j k b' c' c hj (e▸hk));refine⟨if j∈ks then{e' with fz:=Ab}else e',?_,?_⟩
  ·grind [AH,zBa]
  have m3:=OwnRel.mono (β':=β) m2 (s2 b' hbne) hfix0 (BeLe.refl _);split
  ·exact m3.like rfl rfl rfl rfl rfl
  exact m3
 ·by_cases hjk:j=k
  ·grind
  rw[AH (Ne.symm hjk),zBa]at he';obtain⟨e0,he0,rfl⟩:=As.1 he';rcases hi with hi|⟨k',hk',c1',e1',m1,m2,m3⟩
  ·have:=h.fz j b' c' i e0 hj he0 hi
   grind
  have:=h.inj k' j b' c1' c' m1 hj
  grind
 ·rw[s3];exact zDt h.sr.weak h.imb ks b' o hi
 rcases hi with hi|⟨k',_,c1',_,m1,_⟩;all_goals grind
theorem Sim.put{k off:Nat}{e:Bk}{ks:List Nat}{cs:List D}{vs:List Value}{b c:Nat}(h:Sim β I w sl st a.tmps.toList)(hk:β k=Aa (b,c))(he:st[k]?=Aa e)(hfz:e.fz=Ad)(hkd:e.kd.isMap=Ad)(hnk:k∉ks)
  (hr:RelL (fixI I β st ks) w (if e.nob then noB else β) cs vs)(hoff:off+cs.length<=e.cells.length)(dst:Option Nat)(v0:Value):
  Sim β (fixI I β st ks) (w.setCells b off vs) (putD sl dst .unk) ((zAo st ks).set k {e with cells:=setAt e.cells off cs}) (a.put dst v0).tmps.toList/\Stp β I w β (fixI I β st ks) (w.setCells b off vs)/\w.there b off vs.length:=by
 obtain⟨e',he',hown⟩:=h.sr k b c hk;rw[he]at he';cases he';obtain⟨cur,c1,c2,c3,c4⟩:=hown.c hkd;have hvl:cs.length=vs.length:=hr.length;obtain⟨s1,s2,s3,s4,s5,s6⟩:=zC5 b e.ty vs off w cur c1;have hnoI:∀j,¬fixI I β st ks b j:=by
  rintro j (hi|⟨k',hk',c',e',m1,m2,m3⟩)
  ·have:=(h.fz k b c j e hk he hi).1
   rw[hfz]at this;cases this
  have:=h.inj k' k b c' c m1 hk
  subst this;exact hnk hk'
 have hcell:∀b' o',b'≠b->(w.setCells b off vs).cell? ⟨b',o',Ac⟩=w.cell? ⟨b',o',Ac⟩:=λb' o' hne=>by
  simp only[World.cell?];rw[s2 b' hne]
 have hfix:Fix (fixI I β st ks) w (fixI I β st ks) (w.setCells b off vs):=λb' o' hi=>⟨hi,λv hv=>by
  by_cases hb:b'=b
  ·subst hb;exact absurd hi (hnoI o')
  ·rw[hcell b' o' hb];exact hv,λmk mv hm=>by
  by_cases hb:b'=b
  ·subst hb;exact absurd hi (hnoI o')
  exact hm.of_heap (s2 b' hb)⟩
 have hfix0:Fix I w (fixI I β st ks) (w.setCells b off vs):=(zAg ks).trans hfix;have hklt:k<st.length:=h.dom k _ hk;refine⟨⟨zFi (RelT.mono hfix0 β β (BeLe.refl _) _ _ h.rel) (by simp only[Rel]) dst,λj b' c' hj=>?_,h.inj,λj b' c' i e' hj he' hi=>?_,λj x hj=>by simpa[zAa]using h.dom j x hj,λb' o hi=>?_,h.gl.mono hfix0⟩,⟨hfix0,by rw[s3];exact Af _,λb' hb' hne=>s2 b' (λe=>hne k c (e▸hk)),s4,s5,s6.1,s6.2,λj b' c' hj=> .inl ⟨j,c',hj⟩,λb' o hi=>?_⟩,λj hj=>?_⟩
 ·by_cases hjk:j=k
  ·subst hjk;rw[hk]at hj;cases hj;refine⟨_,AW (by rw[zAa];exact hklt),OwnC.r ⟨zC4 cur off vs,s1,?_,?_,?_⟩ hkd⟩
   ·grind [setAt,zCw,zE1]
   ·show RelL _ _ _ (setAt e.cells off cs) ((zC4 cur off vs).take (setAt e.cells off cs).length);rw[zCw,zKz _ _ _ _ (by omega)];have c3':=RelL.mono hfix0 _ _ (BeLe.refl _) _ _ c3;have hr':=RelL.mono hfix _ _ (BeLe.refl _) _ _ hr;exact RelL.setAt off hr' c3'
   grind [zE1]
  obtain⟨e',m1,m2⟩:=h.sr j b' c' hj;have hbne:b'≠b:=λe=>hjk (h.inj j k b' c' c hj (e▸hk));refine⟨if j∈ks then{e' with fz:=Ab}else e',?_,?_⟩
  ·grind [AH,zBa]
  have m3:=OwnRel.mono (β':=β) m2 (s2 b' hbne) hfix0 (BeLe.refl _);split
  ·exact m3.like rfl rfl rfl rfl rfl
  exact m3
 ·by_cases hjk:j=k
  ·grind
  rw[AH (Ne.symm hjk),zBa]at he';obtain⟨e0,he0,rfl⟩:=As.1 he';rcases hi with hi|⟨k',hk',c1',e1',m1,m2,m3⟩
  ·have:=h.fz j b' c' i e0 hj he0 hi
   grind
  have:=h.inj k' j b' c1' c' m1 hj
  grind
 ·rw[s3];exact zDt h.sr.weak h.imb ks b' o hi
 ·rcases hi with hi|⟨k',_,c1',_,m1,_⟩;all_goals grind
 have hlt:off+j<cur.length:=by omega
 refine⟨?_,frozen_of_row w b (off+j) cur.toArray e.ty c1⟩;rw[cell_of_row w b (off+j) cur.toArray e.ty (0,0) c1];simp[hlt]
end
section
variable {P : Program} {T : Par} {I I' : Im} {w w' : World} {β β' : Be} {sl : List D} {st : List Bk} {a : Act}
theorem zT6{o:Oper}{s x:Operand}{ts:Array TypeId}{t u e e':TypeId}{i:TypeInfo}{z:Value}(ho:o.op= .call {callee:= .builtin .append,args:=#[s,x],argTypes:=ts})(hts:ts=#[t,u])
  (ht:P.underlying t=Aa (.slice e))(hu:P.underlying u=Aa (.slice e'))(hi:P.info? e=Aa i)(hz:i.zero=Aa z)(hzs:z.cells.size=i.size)(hsz:0<i.size)(hby:0<i.bytes)
  {g cap n m c:Nat}{cur xs vs:List Value}(hs:a.eval s= .slice (Aa ⟨g,0,Ac⟩) n cap)(hg:w.heap[g]?=Aa (.cells cur.toArray e (0,0)))(hcap:cur.length=cap*i.size)(hn:n<=cap)(hc1:cap<=maxLen)(hxs:cur.take (n*i.size)=xs)
  {ad:Option Addr}(hx:a.eval x= .slice ad m c)(hc:ad=Ac->c=0)(hl:vs.length=m*i.size)
  (hvs:vs=[]\/∃b o,ad=Aa ⟨b,o,Ac⟩/\w.rangeAt b o vs)(h1:∀u∈vs,u.oneCell'=Ab)(hb:(n+m)*i.bytes<=140737488355328):
  ∃g' cap' cur' w',(execOp a.eval o).run P w= .ok (.value (.slice (Aa ⟨g',0,Ac⟩) (n+m) cap')) w'/\w'.heap[g']?=Aa (.cells (List.toArray cur') e (0,0))/\cur'.length=cap'*i.size/\n+m<=cap'/\cap'<=maxLen/\cur'.take ((n+m)*i.size)=xs++vs/\
   w.grownBy w' (Aa g)/\(g'=g\/(w.heap.size<=g'/\Ext w w')):=by
 have hmul:n*i.size<=cap*i.size:=Ay _ hn;have hown:w.ownsRow 0 e i.size (.slice (Aa ⟨g,0,Ac⟩) n cap) n xs:=⟨by rw[<-hxs];simp;omega, .inr ⟨g,cap,cur.toArray,rfl,AI _,hg,hn,hc1,by simpa using hcap,by simpa using hxs⟩⟩;obtain⟨v',w',r1,r2,r3⟩:=zNh (P:=P) (w:=w) (a:=a) ho hts ht hu hi hz hzs hsz hby hs hown (AI _) hx hc hl hvs h1 hb;have hpos:v'≠ .slice Ac 0 0/\(v'.ownBlock=Aa g\/∃g',v'.ownBlock=Aa g'/\w.heap.size<=g'/\Ext w w'):=by
  subst hts;have hm:n+m<=maxLen:=by
   have h2:n+m<=(n+m)*i.bytes:=Nat.le_mul_of_pos_right _ hby;unfold maxLen;omega
  have hat:=zJ3 (w:=w) (ty:=o.type) (b:=Aa ⟨g,0,Ac⟩) (n:=n) (c:=cap) (x:= .slice ad m c) ht hu hi;have hrun:(do pure (.value (<-Builtin.append_ #[t,t] o.type #[.slice (Aa ⟨g,0,Ac⟩) n cap, .slice ad m c])):Sem Next).run P w= .ok (.value v') w':=by
   rw[<-r1];simp[execOp,ho,resolve,invoke,builtin,hs,hx,hat]
  cases ad with
  | none=>
   obtain rfl:=hc rfl;have hv0:vs=[]:=by rcases hvs with h|⟨b,o,h,_⟩;exact h;cases h
   subst hv0;have:m=0:=by
    grind [Nat.mul_eq_zero]
   subst this;have hr:=run_append_owned_none (P:=P) (w:=w) 0 t o.type e i i.size ht hi _ n xs hown;rw[Ae,hr]at hrun;simp at hrun;rw[<-hrun.1];exact⟨by simp, .inl rfl⟩
  | some ad'=>
   have hnews:∀j y,vs[j]?=Aa y->w.cell? (ad'.add j)=Aa y:=λj y hj=>by
    rcases hvs with rfl|⟨b,o,h,hr⟩
    ·simp at hj
    cases h;rw[Addr.add_mid];exact hr j y hj
   by_cases hroom:n+m<=cap
   ·have hfit:n*i.size+vs.length<=cur.toArray.size:=by
     have:(n+m)*i.size<=cap*i.size:=Ay _ hroom;grind
    have hr:=run_append_room (P:=P) w t o.type e i ht hi g n cap cur.toArray hg ad' m c vs hl hnews h1 hroom hfit;rw[Ae,hr]at hrun;simp at hrun;rw[<-hrun.1];exact⟨by simp, .inl rfl⟩
   have hr:=run_append_grow (P:=P) w t o.type e i z ht hi hz ⟨g,0,Ac⟩ n cap xs hown.1 (hown.cells (g:=g) rfl) ad' m c vs hl hnews (by omega) (by simp[maxLen]at hm;omega) (growslice_fits (by omega) hb);rw[Ae,hr]at hrun;simp at hrun;rw[<-hrun.1,<-hrun.2];exact⟨by simp, .inr ⟨w.heap.size,rfl,Af _,(Ext.drew w).trans (Ext.alloc _ _)⟩⟩
 obtain⟨q1,⟨rfl,q2⟩|⟨g',cap',cur',rfl,q2,q3,q4,q5,q6,q7⟩⟩:=r2
 ·exact absurd rfl hpos.1
 refine⟨g',cap',cur'.toList,w',r1,by simpa using q3,by simpa using q6,q4,q5,q7,r3,?_⟩;rcases hpos.2 with h|⟨g2,h,h2⟩
 ·simp[AP]at h;exact .inl h
 simp[AP]at h;subst h;exact .inr h2
theorem RelL.append{β:Be}:∀{x y:List D}{u v:List Value},RelL I w β x u->RelL I w β y v->RelL I w β (x++y) (u++v)
 |[],y,u,v,h,k=>by simp only[RelL]at h;subst h;simpa using k
 |d::x,y,u,v,h,k=>by
  simp only[RelL]at h;obtain⟨a,us,rfl,h0,h1,h2⟩:=h;simp only[Bb,RelL];exact⟨a,us++v,rfl,h0,h1,h2.append k⟩
theorem zSb{o:Oper}{s x:Operand}{ts:Array TypeId}{t u e:TypeId}{i:TypeInfo}{z:Value}(ho:o.op= .call {callee:= .builtin .append,args:=#[s,x],argTypes:=ts})(hts:ts=#[t,u])
  (ht:P.underlying t=Aa (.slice e))(hi:P.info? e=Aa i)(hz:i.zero=Aa z)(hzs:z.cells.size=i.size)(hsz:0<i.size)(hby:0<i.bytes)
  {g cap n m:Nat}{cur xs vs:List Value}(hs:a.eval s= .slice (Aa ⟨g,0,Ac⟩) n cap)(hg:w.heap[g]?=Aa (.cells cur.toArray e (0,0)))(hcap:cur.length=cap*i.size)(hn:n<=cap)(hc1:cap<=maxLen)(hxs:cur.take (n*i.size)=xs)
  (hsrc:AppSrc P w i u (a.eval x) m vs)(hl:vs.length=m*i.size)(h1:∀u∈vs,u.oneCell'=Ab)(hb:(n+m)*i.bytes<=140737488355328):
  ∃g' cap' cur' w',(execOp a.eval o).run P w= .ok (.value (.slice (Aa ⟨g',0,Ac⟩) (n+m) cap')) w'/\w'.heap[g']?=Aa (.cells (List.toArray cur') e (0,0))/\cur'.length=cap'*i.size/\n+m<=cap'/\cap'<=maxLen/\cur'.take ((n+m)*i.size)=xs++vs/\
   w.grownBy w' (Aa g)/\(g'=g\/(w.heap.size<=g'/\Ext w w')):=by
 have hsrc0:=hsrc;cases hsrc with
 |sl hu hx hc hvs=>exact zT6 ho hts ht hu hi hz hzs hsz hby hs hg hcap hn hc1 hxs hx hc hl hvs h1 hb
 | str hu hx hm hvs hib=>
  obtain⟨b1,b2,b3⟩:=zRj hib;have hmul:n*i.size<=cap*i.size:=Ay _ hn;have hown:w.ownsRow 0 e i.size (.slice (Aa ⟨g,0,Ac⟩) n cap) n xs:=⟨by rw[<-hxs];simp;omega, .inr ⟨g,cap,cur.toArray,rfl,AI _,hg,hn,hc1,by simpa using hcap,by simpa using hxs⟩⟩;obtain⟨v',w',r1,r2,r3⟩:=zGv (P:=P) (w:=w) (a:=a) ho hts ht hi hz hzs hsz hby hs hown (AI _) hsrc0 hl h1 hb;rename_i str;subst hts hm hvs;rw[b2]at hb;have hpos:v'≠ .slice Ac 0 0/\(v'.ownBlock=Aa g\/∃g',v'.ownBlock=Aa g'/\w.heap.size<=g'/\Ext w w'):=by
   have hrun:(do pure (.value (<-Builtin.append_ #[t,u] o.type #[.slice (Aa ⟨g,0,Ac⟩) n cap, .string str])):Sem Next).run P w= .ok (.value v') w':=by
    rw[<-r1];simp[execOp,ho,resolve,invoke,builtin,hs,hx]
   have hcap1:cur.length=cap:=by rw[hcap,b1,Nat.mul_one]
   have hxl:xs.length=n*i.size:=hown.1;by_cases hroom:n+str.size<=cap
   ·have hr:=Lib.run_append_room_string (P:=P) w t u o.type e i ht hu hi b1 g n cap cur.toArray hg str hroom (by simp[hcap1];omega);rw[Ae,hr]at hrun;simp at hrun;rw[<-hrun.1];exact⟨by simp, .inl rfl⟩
   have hr:=Lib.run_append_grow_string (P:=P) w t u o.type e i z ht hu hi hz ⟨g,0,Ac⟩ n cap xs hxl (hown.cells (g:=g) rfl) str (by omega) (by omega) (by rw[b2];exact growslice_fits (by omega) (by omega));rw[Ae,hr]at hrun;simp at hrun;rw[<-hrun.1,<-hrun.2];exact⟨by simp, .inr ⟨w.heap.size,rfl,Af _,(Ext.drew w).trans (Ext.alloc _ _)⟩⟩
  obtain⟨q1,⟨rfl,q2⟩|⟨g',cap',cur',rfl,q2,q3,q4,q5,q6,q7⟩⟩:=r2
  ·exact absurd rfl hpos.1
  refine⟨g',cap',cur'.toList,w',r1,by simpa using q3,by simpa using q6,q4,q5,q7,r3,?_⟩;rcases hpos.2 with h|⟨g2,h,h2⟩
  ·simp[AP]at h;exact .inl h
  simp[AP]at h;subst h;exact .inr h2
theorem OwnRel.kill{k b c:Nat}{e:Bk}(h:OwnRel I w β b c e)(hh:w'.heap[b]?=w.heap[b]?)(hf:Fix I w I' w')(hb:∀j x,j≠k->β j=Aa x->β' j=Aa x):OwnRel I' w' β' b c (zCg k e):=by
 unfold zCg;cases hn:e.nob
 ·simp only[Al,if_false];rcases e.kd.cases with hkd|⟨ks,hkd⟩
  ·obtain⟨cur,h1,h2,h3,h4⟩:=h.c hkd;refine OwnC.r ⟨cur,hh.trans h1,by simpa using h2,?_,h4⟩ hkd;rw[hn]at h3;have:(if(Bk.nob {e with cells:=e.cells.map (zA6 k)})=Ab then noB else β')=β':=by
    grind [Bk.nob,zA6]
   rw[this]
   have:=(zHl (I:=I) (w:=w) (β:=β) (β':=β') (f:=zA6 k) (zHm hb)).2 h3
   have:=RelL.mono hf _ _ (BeLe.refl _) _ _ this
   simpa using this
  obtain⟨vs,h1,h2⟩:=h.m hkd;refine OwnM.r ⟨vs,h1.of_heap hh,?_⟩ hkd;rw[hn]at h2;have:(if(Bk.nob {e with cells:=e.cells.map (zA6 k)})=Ab then noB else β')=β':=by
   grind [Bk.nob,zA6]
  rw[this]
  have:=(zHl (I:=I) (w:=w) (β:=β) (β':=β') (f:=zA6 k) (zHm hb)).1 h2
  exact RelT.mono hf _ _ (BeLe.refl _) _ _ this
 simp only[if_true];rcases e.kd.cases with hkd|⟨ks,hkd⟩
 ·obtain⟨cur,h1,h2,h3,h4⟩:=h.c hkd;refine OwnC.r ⟨cur,hh.trans h1,h2,?_,h4⟩ hkd;rw[hn]at h3⊢;exact RelL.mono hf _ _ (BeLe.refl _) _ _ h3
 obtain⟨vs,h1,h2⟩:=h.m hkd;refine OwnM.r ⟨vs,h1.of_heap hh,?_⟩ hkd;rw[hn]at h2⊢;exact RelT.mono hf _ _ (BeLe.refl _) _ _ h2
theorem zSc(h:Sim β I w sl st a.tmps.toList)(o:Oper){p:Prop}{k:Nat}{b:Bk}{d:D}(he:aeff P T o.op o.type (evD sl) st= .app p k b d)(hE:isE T o.op=Ab)(hp:p):
  ∃v w' β',(execOp a.eval o).run P w= .ok (.value v) w'/\Sim β' I w' (putD (sl.map (zA6 k)) o.dst d) ((st.map (zCg k)).set k b) (a.put o.dst v).tmps.toList/\Stp β I w β' I w'/\(∀j,j≠k->β' j=β j):=by
 generalize ho:o.op=op at hE he;have hop:∃args ts,op= .call {callee:= .builtin .append,args:=args,argTypes:=ts}:=by
  unfold isE at hE;split at hE
  ·simp only[aeff]at he;grind
  ·simp only[aeff]at he;rcases zA8 he with h|⟨_,_,_,_,h⟩<;>cases h
  ·simp only[aeff]at he;rcases zA8 he with h|⟨_,_,_,_,h⟩<;>cases h
  ·exact⟨_,_,rfl⟩
  ·simp only[aeff]at he;split at he
   ·rcases zC0 he with h|⟨_,_,_,_,h⟩<;>cases h
   cases he
  ·simp only[aeff]at he;split at he
   ·rcases zB6 he with h|⟨_,_,_,_,h⟩<;>cases h
   cases he
  ·simp only[aeff,evD]at he;rcases zBc he with h|⟨_,_,h,_⟩|⟨h,_⟩<;>cases h
  ·simp only[aeff]at he;split at he
   ·rcases zBc he with h|⟨_,_,h,_⟩|⟨h,_⟩<;>cases h
   cases he
  cases hE
 obtain⟨args,ts,rfl⟩:=hop;simp only[aeff]at he;split at he
 ·rename_i t u s x hts hargs;have e1:ts=#[t,u]:=by apply Aw;exact hts
  have e2:args=#[s,x]:=by apply Aw;exact hargs
  subst e2;obtain⟨e,e',i,z,xs,m,hu,hi',hz,hk0,hsrc⟩:=app_src (x:=x) h.sr.weak h.rel he (by simp);have hlx:xs.length=m*i.size:=by
   rcases hk0 with hk|hk<;>
   ·unfold aApp at hk;grind
  clear hk0;obtain⟨vs,sh',hsh',hk,k3,ksrc⟩:=hsrc hlx;clear hsrc hlx;unfold aApp at hk;split at hk
  ·cases hk
  ·rename_i k' n mm hsv;split at hk
   ·rename_i b0 hb0;simp only[Eff.app.injEq]at hk;obtain⟨rfl,rfl,rfl,rfl⟩:=hk;obtain⟨p1,p2,p3,p4,p5,p6,p7,p8,p9,p10,p11,p12,p13⟩:=hp;obtain⟨i2,zv,h1,h2,h3,h4,h5⟩:=zCu (P:=P) (I:=I) (w:=w) (β:=β) hz;rw[hi']at h1;cases h1;have hzs:zv.cells.size=i.size:=by rw[<-p11,h4];simp
    have es:=zZf (zAi h.rel s);rw[hsv]at es;simp only[Rel]at es;have hvl:vs.length=m*i.size:=by rw[<-k3.length,p6]
    have hklt:k'<st.length:=(Ak.1 hb0).1;have hmaplen:k'<(st.map (zCg k')).length:=by simpa using hklt
    obtain⟨bN,hbN⟩:∃bN:Bk,bN={b0 with cells:=if b0.nob=Ab then b0.cells++xs else(b0.cells++xs).map (zA6 k')}:=⟨_,rfl⟩;rw[<-hbN];have n1:bN.ty=b0.ty/\bN.sz=b0.sz/\bN.arr=b0.arr/\bN.fz=b0.fz/\bN.kd=b0.kd:=by rw[hbN];exact⟨rfl,rfl,rfl,rfl,rfl⟩
    have n2:bN.nob=b0.nob:=by unfold Bk.nob;rw[n1.2.2.1,n1.2.2.2.2]
    have n3:bN.cells.length=(n+m)*i.size:=by
     grind
    have hkb:∀(x:Option (Nat×Nat)),∀j y,j≠k'->β j=Aa y->addB β k' x j=Aa y:=λx j y hj hy=>by rw[zC3 x hj];exact hy
    have grow:∀(w':World)(x:Option (Nat×Nat))(us:List Value),Fix I w I w'->RelL I w (if b0.nob then noB else β) b0.cells us->RelL I w' (if bN.nob then noB else addB β k' x) bN.cells (us++vs):=by
     intro w' x us hf hu;rw[n2];cases hnb:b0.nob
     ·have hxs:RelL I w β xs vs:=by
       cases sh'
       ·exact RelL.mono (Fix.refl I w) noB β (BeLe.no β) _ _ k3
       exact k3
      rw[hnb]at hu;have h1:RelL I w β (b0.cells++xs) (us++vs):=RelL.append hu hxs;have h2:=(zHl (I:=I) (w:=w) (β:=β) (β':=addB β k' x) (f:=zA6 k') (zHm (hkb x))).2 h1;have h3:=RelL.mono hf _ _ (BeLe.refl _) _ _ h2;grind
     have hns:b0.kd.isSh=false:=by
      unfold Bk.nob at hnb;grind
     have hs0:sh'=false:=p13.resolve_right (by rw[hns];simp);rw[hs0]at k3;rw[hnb]at hu;have:bN.cells=b0.cells++xs:=by rw[hbN];simp[hnb]
     rw[this];exact RelL.mono hf noB noB (BeLe.refl _) _ _ (RelL.append hu k3)
    have fin:∀(x:Option (Nat×Nat))(w':World)(v:Value),w.heap.size<=w'.heap.size->w'.os=w.os->w'.tape=w.tape->w'.output=w.output->w.drawn<=w'.drawn->
      (∀bb,bb<w.heap.size->(∀cc,β k'≠Aa (bb,cc))->w'.heap[bb]?=w.heap[bb]?)->
      Fix I w I w'->
      (∀bb cc,x=Aa (bb,cc)->((∃c0,β k'=Aa (bb,c0))\/w.heap.size<=bb)/\OwnRel I w' (addB β k' x) bb cc bN)->
      Rel I w' (addB β k' x) (.osl k' 0 (n+m) ((n+m)*i.size) Ab) v->
      Sim (addB β k' x) I w' (putD (sl.map (zA6 k')) o.dst (.osl k' 0 (n+m) ((n+m)*i.size) Ab)) ((st.map (zCg k')).set k' bN) (a.put o.dst v).tmps.toList/\Stp β I w (addB β k' x) I w'/\(∀j,j≠k'->addB β k' x j=β j):=by
     intro x w' v f1 f2 f3 f4 fd f5 hfix f7 f8;have hrel:RelT I w' (addB β k' x) (sl.map (zA6 k')) a.tmps.toList:=by
      have:=(zHl (I:=I) (w:=w) (β:=β) (β':=addB β k' x) (f:=zA6 k') (zHm (hkb x))).1 h.rel
      exact RelT.mono hfix _ _ (BeLe.refl _) _ _ this
     refine⟨⟨zFi hrel f8 o.dst,λj bb cc hj=>?_,λj j' bb cc cc' hj hj'=>?_,λj bb cc jj e0 hj he0 hi=>?_,λj y hj=>?_,λbb j hi=>A2 (h.imb bb j hi) f1,h.gl.mono hfix⟩,
      ⟨hfix,f1,λbb hb hne=>f5 bb hb (λcc=>hne k' cc),f2,f3,f4,fd,λj bb cc hj=>?_,λbb j hi=> .inl hi⟩,λj hj=>zC3 x hj⟩
     ·by_cases hjk:j=k'
      ·grind [zA4,AW]
      rw[zC3 x hjk]at hj;obtain⟨e0,m1,m2⟩:=h.sr j bb cc hj;refine⟨zCg k' e0,by rw[AH (Ne.symm hjk),Ax,m1];rfl,?_⟩;have hne:∀cc',β k'≠Aa (bb,cc'):=λcc' hh=>hjk (h.inj j k' bb cc cc' hj hh);exact m2.kill (f5 bb m2.lt hne) hfix (hkb x)
     ·by_cases hjk:j=k'<;>by_cases hjk':j'=k'
      ·rw[hjk,hjk']
      ·rw[hjk,zA4]at hj;rw[zC3 x hjk']at hj';obtain⟨e0,_,m2⟩:=h.sr j' bb cc' hj';rcases(f7 bb cc hj).1 with⟨c0,hc0⟩|hb
       ·exact absurd (h.inj j' k' bb cc' c0 hj' hc0) hjk'
       have:=m2.lt;omega
      ·rw[hjk',zA4]at hj';rw[zC3 x hjk]at hj;obtain⟨e0,_,m2⟩:=h.sr j bb cc hj;rcases(f7 bb cc' hj').1 with⟨c0,hc0⟩|hb
       ·exact absurd (h.inj j k' bb cc c0 hj hc0) hjk
       have:=m2.lt;omega
      rw[zC3 x hjk]at hj;rw[zC3 x hjk']at hj';exact h.inj j j' bb cc cc' hj hj'
     ·by_cases hjk:j=k'
      ·subst hjk;rw[AW hmaplen]at he0;cases he0;rw[zA4]at hj;rcases(f7 bb cc hj).1 with⟨c0,hc0⟩|hb
       ·have:=h.fz j bb c0 jj b0 hc0 hb0 hi
        grind
       have:=h.imb bb jj hi;omega
      rw[zC3 x hjk]at hj;rw[AH (Ne.symm hjk),Ax]at he0;obtain⟨e1,he1,rfl⟩:=As.1 he0
      have:=h.fz j bb cc jj e1 hj he1 hi
      grind [zCg]
     ·rw[Ba,Bl];by_cases hjk:j=k'
      ·rw[hjk];exact hklt
      rw[zC3 x hjk]at hj;exact h.dom j y hj
     grind [zA4,zC3]
    have hkd:bN.kd.isMap=false:=by rw[n1.2.2.2.2];exact p12
    rcases es with⟨hn0,hm0,hv⟩|⟨_,_,hw,_⟩|⟨g,c0,cap,hbk,hv,hn,hcm,hw⟩
    ·subst hn0;have hb0c:b0.cells=[]:=AR (by simpa using p2);obtain⟨v',w',r1,r2,r3⟩:=zGv (P:=P) (w:=w) (a:=a) ho e1 hu hi' h2 hzs p7 p8 (base:=w.heap.size) (n:=0) (xs:=[]) hv (World.ownsRow_nil w w.heap.size e i.size) (Af _) ksrc hvl k3.ones p10;have hext:Ext w w':=⟨⟨r3.os,r3.tape,r3.output,r3.size,λk hk=>r3.block k hk (by simp[AP])⟩,zB7 _ _ r1⟩;obtain⟨q1,⟨rfl,q2⟩|⟨g,cap,cur,rfl,q2,q3,q4,q5,q6,q7⟩⟩:=r2
     ·exact⟨_,w',_,r1,fin Ac w' _ r3.size r3.os r3.tape r3.output hext.2 (λbb hb _=>Below.block hext.1 bb hb) (Fix.ext hext λ_ _ h=>h) (λ_ _ h=>by cases h) (by simp only[Rel];exact .inl ⟨q2,by rw[q2];simp,by simp⟩)⟩
     refine⟨_,w',_,r1,fin (Aa (g,cap)) w' _ r3.size r3.os r3.tape r3.output hext.2 (λbb hb _=>Below.block hext.1 bb hb) (Fix.ext hext λ_ _ h=>h) (λbb cc hx=>?_) (by simp only[Rel];exact .inr (.inr ⟨g,cap,cap,zA4 _ _,rfl,q4,q5,λ_=>by simp⟩))⟩;cases hx;refine⟨.inr q2,OwnC.r ⟨cur.toList,by simpa[n1.1,p4]using q3,?_,?_,by simp[q6,n1.2.1,p5],q5⟩ hkd⟩
     ·grind
     rw[n3,q7];exact grow w' _ [] (Fix.ext hext λ_ _ h=>h) (by rw[hb0c];simp only[RelL])
    ·cases hw
    obtain⟨_,rfl⟩:=hw (by simp);obtain⟨e0,m1,m2⟩:=h.sr k' g cap hbk;rw[hb0]at m1;cases m1;obtain⟨cur,c1,c2,c3,c4⟩:=m2.c p12;have hcl:=c4.1 p1;rw[p5]at hcl;obtain⟨g',cap',cur',w',r1,r2,r3,r4,r5,r6,r7,r8⟩:=zSb (P:=P) (w:=w) (a:=a) ho e1 hu hi' h2 hzs p7 p8 hv (by rw[<-p4];exact c1) hcl hn hcm rfl ksrc hvl k3.ones p10;have hfix:Fix I w I w':=by
     intro bb j hi;refine⟨hi,λu hu=>?_,λmk mv hm=>?_⟩
     ·by_cases hbg:bb=g
      ·subst hbg;have hj:=(h.fz k' bb cap j b0 hbk hb0 hi).2.resolve_left (by rw[p12];simp);rcases r8 with rfl|r8
       ·rw[cell_of_row w' g' j cur'.toArray e (0,0) r2];rw[cell_of_row w g' j cur.toArray b0.ty (0,0) c1]at hu;have hj2:j<(n+m)*i.size:=by rw[Nat.add_mul];omega
        have e3:(cur'.take ((n+m)*i.size))[j]?=(cur.take (n*i.size)++vs)[j]?:=by rw[r6]
        grind
       exact r8.2.cell hu
      have hlt:=h.imb bb j hi;rw[World.cell?_of_block (w:=w) (a:=⟨bb,j,Ac⟩) (r7.block bb hlt (by simpa using hbg))];exact hu
     by_cases hbg:bb=g
     ·subst hbg;exact(hm.no_cells c1).elim
     exact hm.of_heap (r7.block bb (h.imb bb j hi) (by simpa using hbg))
    refine⟨_,w',_,r1,fin (Aa (g',cap')) w' _ r7.size r7.os r7.tape r7.output (zB7 _ _ r1) (λbb hb hne=>r7.block bb hb (λe3=>hne cap (by cases e3;exact hbk))) hfix (λbb cc hx=>?_) (by simp only[Rel];exact .inr (.inr ⟨g',cap',cap',zA4 _ _,rfl,r4,r5,λ_=>by simp⟩))⟩;cases hx;refine⟨?_,OwnC.r ⟨cur',by rw[n1.1,p4];exact r2,?_,?_,by simp[r3,n1.2.1,p5],r5⟩ hkd⟩
    ·grind
    ·simp_all [Ay]
    simp_all
   cases hk
  cases hk
 cases he
end
section
variable {P : Program} {T : Par} {I I' : Im} {w w' : World} {β β' : Be} {sl : List D} {st : List Bk} {a : Act}
theorem zQq{t:TypeId}{sz b off:Nat}{v:Value}(hs:tySz P t=Aa sz)(hl:v.cells.size=sz)(ht:w.there b off v.cells.toList.length)(h1:∀u∈v.cells.toList,u.oneCell'=Ab):
  (Instr.storeAt t (.pointer (Aa ⟨b,off,Ac⟩)) v).run P w= .ok () (w.setCells b off v.cells.toList):=by
 have:=run_storeCells_cells (P:=P) b off v.cells.toList 0 w (λj hj=>by simpa using(ht j hj).1) (λj hj=>by simpa using(ht j hj).2) h1
 simp only[AL]at this;simp[Instr.storeAt,Instr.sureAddr,storeVar,Ae,zCf hs,hl,this]
theorem zGx{z:List D}{v:Value}(hz:z=v.cells.toList.map .val)(h1:∀u∈v.cells.toList,u.oneCell'=Ab)(hpos:0<z.length)(n:Nat):RelL I w β (repL n z) (Builtin.zeroCells v.cells n).toList:=by
 have hsz:v.cells.size=z.length:=by rw[hz];simp
 refine RelL.of_get (by rw[zB0];simp[Builtin.zeroCells,hsz]) λi d u hd hu=>?_;have hi:i<n*z.length:=by
  grind [Ak,zB0]
 rw[zVy n z i hi]at hd;have hm:i%z.length<v.cells.size:=by rw[hsz];exact Nat.mod_lt _ hpos
 simp only[Builtin.zeroCells,AT,Array.toList_range,Ax,hsz,List.getElem?_range hi,Aq,Ah.injEq]at hu;rw[getElem!_pos v.cells (i%z.length) hm]at hu;subst hu;have hmem:v.cells[i%z.length]∈v.cells.toList:=by simp
 refine⟨h1 _ hmem,?_⟩;have e:z[i%z.length]?=Aa (.val v.cells[i%z.length]):=by
  grind
 rw[e]at hd;cases hd;simp only[Rel]
theorem Sim.light(h:Sim β I w sl st a.tmps.toList){d:D}{v:Value}(hd:Rel I w β d v)(dst:Option Nat):Sim β I w (putD sl dst d) st (a.put dst v).tmps.toList:=
 ⟨zFi h.rel hd dst,h.sr,h.inj,h.fz,h.dom,h.imb,h.gl⟩
theorem zTx(h:Sim β I w sl st a.tmps.toList)(o:Oper){c:Call}(ho:o.op= .call c){p:Prop}{k:Nat}{b:Bk}{fz:List Nat}(hc:c.callee= .builtin .clear)(he:aeff P T (.call c) o.type (evD sl) st= .put p k b fz)(hp:p):
  ∃w' I' y v,(execOp a.eval o).run P w= .ok y w'/\((y= .skip/\v=undef)\/y= .value v)/\Sim β I' w' (putD sl o.dst .unk) ((zAo st fz).set k b) (a.put o.dst v).tmps.toList/\Stp β I w β I' w':=by
 simp only[aeff,hc]at he;split at he
 ·rename_i t x hts hxs;unfold zXu at he;split at he
  ·rename_i e k' off n m wh hu hx;split at he
   ·rename_i bk z hk hz;simp only[Eff.put.injEq]at he;obtain⟨rfl,rfl,rfl,rfl⟩:=he;obtain⟨p1,pm,p2,p3⟩:=hp;obtain⟨i,v,z1,z2,z3,z4,z5⟩:=zCu (I:=I) (w:=w) (β:=β) hz;have hr:=zAi h.rel x;rw[hx]at hr;simp only[Rel]at hr;have hargs:c.args.map a.eval=#[a.eval x]:=by
     apply Aw;simp[hxs]
    have htys:c.argTypes=#[t]:=by
     grind
    have hop:∀w',(Builtin.clear_ #[t] o.type #[a.eval x]).run P w= .ok (.tuple #[]) w'->(execOp a.eval o).run P w= .ok (.value (.tuple #[])) w':=λw' hw=>by
     simp[execOp,ho,hc,resolve,invoke,builtin,hargs,htys,Ae,hw]
    have none':n=0->(Builtin.clear_ #[t] o.type #[a.eval x]).run P w= .ok (.tuple #[]) w->∃w' I' y v,(execOp a.eval o).run P w= .ok y w'/\((y= .skip/\v=undef)\/y= .value v)/\Sim β I' w' (putD sl o.dst .unk) ((zAo st []).set k' {bk with cells:=setAt bk.cells off (repL n z)}) (a.put o.dst v).tmps.toList/\Stp β I w β I' w':=by
     intro h0 hw;subst h0;have e1:(zAo st []).set k' {bk with cells:=setAt bk.cells off (repL 0 z)}=st:=by
      show st.set k' bk=st;apply AK;grind
     rw[e1];exact⟨w,I,_,_,hop w hw, .inr rfl,h.light (by simp only[Rel]) o.dst,Stp.refl _ _ _⟩
    rcases hr with⟨n0,_,hv⟩|⟨n0,_,_,aa,cc,hv,_⟩|⟨bb,cc,cap,hb,hv,_⟩
    ·exact none' n0 (by rw[hv];simp[Builtin.clear_,run_underlying hu])
    ·exact none' n0 (by rw[hv];cases aa<;>simp[Builtin.clear_,run_underlying hu])
    rcases Nat.eq_zero_or_pos n with n0|hpos
    ·exact none' n0 (by rw[hv,n0];simp[Builtin.clear_,run_underlying hu])
    obtain⟨s1,s2,s3⟩:=h.put (off:=off) (ks:=[]) (cs:=repL n z) (vs:=(Builtin.zeroCells v.cells n).toList) hb hk p1 pm (by simp) (zGx z4 z5 p2 n) (by rw[zB0];omega) o.dst (.tuple #[]);refine⟨_,_,_,_,hop _ ?_, .inr rfl,s1,s2⟩;have hst:=run_storeCells_cells (P:=P) bb off (Builtin.zeroCells v.cells n).toList 0 w (λj hj=>by simpa using(s3 j hj).1) (λj hj=>by simpa using(s3 j hj).2) (by
     have:=(zGx (I:=I) (w:=w) (β:=β) z4 z5 p2 n).ones
     exact this)
    simp only[AL]at hst;obtain⟨n',rfl⟩:∃n',n=n'+1:=⟨n-1,by omega⟩;rw[hv];simp[Builtin.clear_,run_underlying hu,Ae,zEr z1 z2,hst]
   cases he
  cases he
 cases he
theorem zYk(h:Sim β I w sl st a.tmps.toList)(o:Oper){c:Call}(ho:o.op= .call c){p:Prop}{k:Nat}{b:Bk}{fz:List Nat}(hc:c.callee= .builtin .copy)(he:aeff P T (.call c) o.type (evD sl) st= .put p k b fz)(hp:p):
  ∃w' I' y v,(execOp a.eval o).run P w= .ok y w'/\((y= .skip/\v=undef)\/y= .value v)/\Sim β I' w' (putD sl o.dst .unk) ((zAo st fz).set k b) (a.put o.dst v).tmps.toList/\Stp β I w β I' w':=by
 simp only[aeff,hc]at he;split at he
 ·rename_i t u s x hts hxs;have hargs:c.args.map a.eval=#[a.eval s,a.eval x]:=by
   apply Aw;simp[hxs]
  have htys:c.argTypes=#[t,u]:=by
   grind
  unfold aCopy at he;split at he
  ·rename_i e e' k' off n m wh hu hu' hs;split at he
   ·rename_i bk sz xs l hk hsz hsrc;simp only[Eff.put.injEq]at he;obtain⟨rfl,rfl,rfl,rfl⟩:=he;obtain⟨p1,p2,p3,p4,p5,p6⟩:=hp;have hr:=zAi h.rel s;rw[hs]at hr;simp only[Rel]at hr;obtain⟨ad,c0,vs,hv,hc0,hrel,hsv⟩:=zKy h.sr.weak (zAi h.rel x) hsrc;have hlen:=hrel.length;have hop:∀y w',(Builtin.copy_ #[t,u] o.type #[a.eval s,a.eval x]).run P w= .ok y w'->(execOp a.eval o).run P w= .ok (.value y) w':=λy w' hw=>by
     simp[execOp,ho,hc,resolve,invoke,builtin,hargs,htys,Ae,hw]
    have hld:∀cnt,cnt<=l->(Builtin.firstCells sz cnt (a.eval x)).run P w= .ok (vs.take (cnt*sz)).toArray w:=by
     intro cnt hcnt;rw[hv];cases ad with
     |none=>
      have hv0:vs=[]:=by rcases hsv with h|⟨b,o,h,_⟩;exact h;cases h
      rw[hv0];simp[Builtin.firstCells]
     | some ad=>
      have hle:cnt*sz<=vs.length:=by rw[<-hlen,p5];exact Ay _ hcnt
      have:=run_loadCells_list (P:=P) (w:=w) ad (vs.take (cnt*sz)) (λj v hj=>by
       rw[Ar]at hj;split at hj
       ·rcases hsv with rfl|⟨b,o,h,hra⟩
        ·simp at hj
        cases h;rw[Addr.add_mid];exact hra j v hj
       cases hj)
      rw[AX,Nat.min_eq_left hle]at this;simpa[Builtin.firstCells]using this
    have hlo:∀W:World,(Builtin.lenOf (a.eval x)).run P W= .ok l W:=λW=>by rw[hv];rfl
    have none':n=0->(∃ba cc,a.eval s= .slice ba 0 cc)->∃w' I' y v,(execOp a.eval o).run P w= .ok y w'/\((y= .skip/\v=undef)\/y= .value v)/\Sim β I' w' (putD sl o.dst .unk) ((zAo st []).set k' {bk with cells:=setAt bk.cells off (xs.take (min l n*sz))}) (a.put o.dst v).tmps.toList/\Stp β I w β I' w':=by
     rintro h0 ⟨ba,cc,hsv⟩;subst h0;have e1:(zAo st []).set k' {bk with cells:=setAt bk.cells off (xs.take (min l 0*sz))}=st:=by
      rw[Nat.min_zero,Nat.zero_mul,Bi];show st.set k' bk=st;exact zE0 hk
     rw[e1];refine⟨w,I,_,_,hop (goInt 0) w ?_, .inr rfl,h.light (by simp only[Rel]) o.dst,Stp.refl _ _ _⟩
     have:=hld 0 (AI _)
     simp only[Nat.zero_mul,Bi]at this;rw[hsv];cases ba<;>simp[Builtin.copy_,run_underlying hu,hlo,zCf hsz,this,storeCells]
    rcases hr with⟨n0,_,hv0⟩|⟨n0,_,_,aa,cc,hv0,_⟩|⟨bb,cc,cap,hb,hv0,_⟩
    ·simp_all
    ·simp_all
    have hmin:min l n*sz<=xs.length:=by rw[p5];exact Ay _ (Nat.min_le_left _ _)
    have hmin2:min l n*sz<=n*sz:=Ay _ (Nat.min_le_right _ _);have hrel':RelL (fixI I β st []) w (if bk.nob then noB else β) (xs.take (min l n*sz)) (vs.take (min l n*sz)):=by
     have h1:=RelL.sub hrel 0 (min l n*sz);simp only[List.drop_zero]at h1;have h2:=RelL.mono (zAg (β:=β) (st:=st) []) noB noB (BeLe.refl _) _ _ h1;split
     ·exact h2
     exact RelL.mono (Fix.refl _ _) noB β (BeLe.no β) _ _ h2
    obtain⟨s1,s2,s3⟩:=h.put (off:=off) (ks:=[]) hb hk p1 p2 (by simp) hrel' (by rw[AX];omega) o.dst (goInt (min l n));refine⟨_,_,_,_,hop _ _ ?_, .inr rfl,s1,s2⟩;have hst:=run_storeCells_cells (P:=P) bb off (vs.take (min l n*sz)) 0 w (λj hj=>by simpa using(s3 j hj).1) (λj hj=>by simpa using(s3 j hj).2) (λu hu=>hrel.ones u (List.mem_of_mem_take hu));simp only[AL]at hst
    have:=hld (min l n) (Nat.min_le_left _ _)
    rw[hv0];have e2:Nat.min l n=min l n:=rfl;simp[Builtin.copy_,run_underlying hu,hlo,zCf hsz,e2,this,hst];congr 1;omega
   cases he
  cases he
 cases he
theorem zLm(h:Sim β I w sl st a.tmps.toList)(o:Oper){t:TypeId}{m i x:Operand}(hop:∀w',(Instr.mapUpdate t (a.eval m) (a.eval i) (a.eval x)).run P w= .ok () w'->(execOp a.eval o).run P w= .ok .skip w'){p:Prop}{k:Nat}{b:Bk}{fz:List Nat}
  (he:zCr P t (evD sl m) (evD sl i) (evD sl x) st= .put p k b fz)(hp:p):
  ∃w' I' y v,(execOp a.eval o).run P w= .ok y w'/\((y= .skip/\v=undef)\/y= .value v)/\Sim β I' w' (putD sl o.dst .unk) ((zAo st fz).set k b) (a.put o.dst v).tmps.toList/\Stp β I w β I' w':=by
 unfold zCr at he;split at he
 ·rename_i kt e k' key hu hm hi;split at he
  ·rename_i bk d hk hkt;split at he
   ·rename_i ks hkd;have em:=zAi h.rel m;rw[hm]at em;simp only[Rel]at em;obtain⟨bb,cc,hb,hmv⟩:=em;have ei:=zAi h.rel i;rw[hi]at ei;simp only[Rel]at ei;obtain⟨e0,he0,hown⟩:=h.sr k' bb cc hb;rw[hk]at he0;cases he0;obtain⟨vs,hm1,hm2⟩:=hown.m hkd;have key2:∀(y:D)(fs:List Nat),bk.fz=Ad->zT d key=Ab->ks.all (zT d)=Ab->k'∉fs->Rel (fixI I β st fs) w (if bk.nob then noB else β) y (a.eval x)->
      ∃w' I' z v,(execOp a.eval o).run P w= .ok z w'/\((z= .skip/\v=undef)\/z= .value v)/\Sim β I' w' (putD sl o.dst .unk) ((zAo st fs).set k' (mput bk ks key y)) (a.put o.dst v).tmps.toList/\Stp β I w β I' w':=by
     intro y fs k1 k2 k3 k4 k5;obtain⟨w',r1,r2,r3,r4,r5,r6,r7⟩:=zJ6 (P:=P) (val:=a.eval x) hu hkt hm1 k2 k3
     have:=h.write (w':=w') (e':=mput bk ks key y) (ks:=fs) hb hk k1 k4 r3 r4 r5 r6 ⟨r7,zB7 _ _ r1⟩ (λhf=>by
      have h2:=RelT.mono (((zAg (I:=I) (w:=w) (β:=β) (st:=st) fs)).trans hf) _ _ (BeLe.refl _) _ _ hm2;have h5:=Rel.mono hf _ _ (BeLe.refl _) _ _ k5;unfold mput;unfold putKs putVs at r2;split
      ·rename_i j hj;rw[hj]at r2;exact OwnM.r ⟨_,r2,h2.set h5 j⟩ hkd
      rename_i hj;rw[hj]at r2;refine OwnM.r (ks:=ks++[key]) ⟨_,r2,?_⟩ rfl;have hnb:Bk.nob {bk with cells:=bk.cells++[y],kd:= .map (ks++[key])}=bk.nob:=by unfold Bk.nob;simp[hkd,Kd.isSh]
      rw[hnb];exact h2.append (by simp only[RelT];exact⟨_,[],rfl,h5,rfl⟩)) o.dst undef
     exact⟨w',_, .skip,undef,hop w' (by rw[hmv,ei];exact r1), .inl ⟨rfl,rfl⟩,this.1,this.2⟩
    split at he
    ·rename_i hnb;split at he
     ·rename_i y fs hy;simp only[Eff.put.injEq]at he;obtain⟨rfl,rfl,rfl,rfl⟩:=he;obtain⟨p1,p2,p3,p4⟩:=hp;exact key2 y _ p1 p2 p3 p4 (by rw[if_pos hnb];exact zBq h.sr.weak _ _ _ _ _ hy (zAi h.rel x))
     cases he
    rename_i hnb;simp only[Eff.put.injEq]at he;obtain⟨rfl,rfl,rfl,rfl⟩:=he;obtain⟨p1,p2,p3⟩:=hp;exact key2 _ [] p1 p2 p3 (by simp) (by rw[if_neg hnb];exact Rel.mono (zAg _) β β (BeLe.refl _) _ _ (zAi h.rel x))
   cases he
  cases he
 cases he
theorem zQy(h:Sim β I w sl st a.tmps.toList)(o:Oper){p:Prop}{k:Nat}{b:Bk}{fz:List Nat}(he:aeff P T o.op o.type (evD sl) st= .put p k b fz)(hE:isE T o.op=Ab)(hp:p):
  ∃w' I' y v,(execOp a.eval o).run P w= .ok y w'/\((y= .skip/\v=undef)\/y= .value v)/\Sim β I' w' (putD sl o.dst .unk) ((zAo st fz).set k b) (a.put o.dst v).tmps.toList/\Stp β I w β I' w':=by
 generalize ho:o.op=op at hE he;unfold isE at hE;split at hE
 ·rename_i t x y;simp only[aeff]at he;split at he
  ·rename_i k' off sz hk' hsz;have hx:=zAi h.rel x;rw[hk']at hx;simp only[Rel]at hx;obtain⟨bb,c,hb,hv⟩:=hx;have key:∀(e:Bk)(ks:List Nat)(cs:List D),st[k']?=Aa e->e.fz=Ad->e.kd.isMap=Ad->k'∉ks->RelL (fixI I β st ks) w (if e.nob then noB else β) cs (a.eval y).cells.toList->cs.length=sz->off+sz<=e.cells.length->
     ∃w' I' y v,(execOp a.eval o).run P w= .ok y w'/\((y= .skip/\v=undef)\/y= .value v)/\Sim β I' w' (putD sl o.dst .unk) ((zAo st ks).set k' {e with cells:=setAt e.cells off cs}) (a.put o.dst v).tmps.toList/\Stp β I w β I' w':=by
    intro e ks cs k1 k2 km k3 k4 k5 k6;obtain⟨s1,s2,s3⟩:=h.put (off:=off) hb k1 k2 km k3 k4 (by omega) o.dst undef;refine⟨_,_, .skip,undef,?_, .inl ⟨rfl,rfl⟩,s1,s2⟩;have hr:=zQq (P:=P) (w:=w) (v:=a.eval y) hsz (by rw[<-k5,k4.length];simp) s3 k4.ones;simp[execOp,ho,hv,Ae,hr]
   split at he
   ·cases he
   rename_i e he';split at he
   ·cases he
   rename_i hmap;have hmap:e.kd.isMap=false:=by simpa using hmap
   split at he
   ·rename_i harr;split at he
    ·rename_i d ks hd;simp only[Eff.put.injEq]at he;obtain⟨rfl,rfl,rfl,rfl⟩:=he;obtain⟨p1,p2,p3,p4,p5⟩:=hp;refine key e ks _ he' p1 hmap p5 ?_ p3 p4;simp only[harr,if_true];exact zE4 p2 (zBq h.sr.weak _ _ _ _ _ hd (zAi h.rel y))
    cases he
   rename_i harr;simp only[Eff.put.injEq]at he;obtain⟨rfl,rfl,rfl,rfl⟩:=he;obtain⟨p1,p2,p3,p4⟩:=hp;refine key e [] _ he' p1 hmap (by simp) ?_ p3 p4;simp only[harr,if_false];exact RelL.mono (zAg _) β β (BeLe.refl _) _ _ (zE4 p2 (zAi h.rel y))
  cases he
 ·exact zLm h o (λw' hw=>by simp[execOp,ho,Ae,hw]) he hp
 ·exact zLm h o (λw' hw=>by simp[execOp,ho,Ae,hw]) he hp
 ·simp only[aeff]at he;split at he
  ·rcases zKp he with h|⟨_,_,_,_,h⟩|⟨_,_,_,_,h⟩<;>cases h
  cases he
 ·grind [zYk]
 ·grind [zTx]
 ·simp only[aeff,evD]at he;rcases zBc he with h|⟨_,_,h,_⟩|⟨h,_⟩<;>cases h
 ·simp only[aeff]at he;split at he
  ·rcases zBc he with h|⟨_,_,h,_⟩|⟨h,_⟩<;>cases h
  cases he
 cases hE
def zYy(T:Par)(N:List D->List Bk->Prop)(β:Be)(I:Im)(w:World)(df:List Deferred)(a':Act)(w':World):Prop:=
 ∃sl' st' β' I',N sl' st'/\Sim β' I' w' sl' st' a'.tmps.toList/\Stp β I w β' I' w'/\a'.defers=df/\Kp T β β'
theorem zAl(a:Act)(dst:Option Nat)(v:Value):(a.put dst v).defers=a.defers:=by cases dst<;>rfl
def effW(P:Program)(T:Par)(dr:Bool)(o:Oper)(sl:List D)(st:List Bk)(N:List D->List Bk->Prop):Prop:=
 match aeff P T o.op o.type (evD sl) st with
   | .bad=>False
   | .lit p d=>zY T o.op=Ab/\p/\N (putD sl o.dst d) st
   | .get p d=>zY T o.op=Ad/\p/\N (putD sl o.dst d) st
   | .new p b d fz=>zY T o.op=Ad/\p/\N (putD sl o.dst d) (zAo st fz++[b])
   | .call f args fz=>zY T o.op=Ad/\∃news x,Pure P f args news x/\N (putD sl o.dst (if news.isEmpty then x else zBf st.length x)) (zAo st fz++news)
   | .put p k b fz=>isE T o.op=Ab/\p/\N (putD sl o.dst .unk) ((zAo st fz).set k b)
   | .app p k b d=>isE T o.op=Ab/\(T.keep k=Ad/\p)/\N (putD (sl.map (zA6 k)) o.dst d) ((st.map (zCg k)).set k b)
   | .act f args=>zY T o.op=Ad/\(dr=Ad\/isE T o.op=Ab)/\∃ch x st',(Acts P f args st ch x st'/\∀k∈ch,T.keep k=Ad)/\N (putD (sl.map (zCm ch)) o.dst x) st'
theorem zNb(hM:zBi P T){dr:Bool}(o:Oper){N:List D->List Bk->Prop}(he:effW P T dr o sl st N)(h:Sim β I w sl st a.tmps.toList)(Q:Exit->Act->World->Prop):
  o.wp P a w (zYy T N β I w a.defers) Q:=by
 unfold effW at he;unfold Oper.wp;split at he
 ·exact he.elim
 ·rename_i p d hd;obtain⟨e1,e2,e3⟩:=he;obtain⟨v,h1,h2⟩:=zLn (P:=P) (T:=T) (st:=st) h.rel o e1 hd e2;rw[h1 w];exact⟨_,_,β,I,e3,h.light h2 o.dst,Stp.refl _ _ _,zAl _ _ _,Kp.refl _ _⟩
 ·rename_i p d hd;obtain⟨e1,e2,e3⟩:=he;obtain⟨v,h1,h2⟩:=zLv (P:=P) (T:=T) h.rel h.sr.weak o e1 hd e2;rw[h1];exact⟨_,_,β,I,e3,h.light h2 o.dst,Stp.refl _ _ _,zAl _ _ _,Kp.refl _ _⟩
 ·rename_i p b d fz hd;obtain⟨e1,e2,e3⟩:=he;have hn:β st.length=none:=by
   cases hx:β st.length with
   |none=>rfl
   |some x=>have:=h.dom _ _ hx;omega
  obtain⟨v,w',β',I',h1,h2,h3⟩:=zLg (P:=P) (T:=T) h.rel h.sr.weak h.imb hn o e1 hd e2;rw[h1];obtain⟨s1,s2⟩:=h.outN h2 h3 o.dst;exact⟨_,_,β',I',e3,s1,s2,zAl _ _ _,λk x _ hx=>by rw[h2.be k (.inl (h.dom k x hx))];exact hx⟩
 ·rename_i f args fz hd;obtain⟨e1,news,x,e2,e3⟩:=he;obtain⟨f',args',vs,h1,h2,h3⟩:=zKm hM h.rel o e1 (by simp) (.inl ⟨_,_,_,rfl⟩) hd;rcases zBc h1 with hx|⟨xs,ks,hx,_,hm,_⟩|⟨hx,_⟩
  ·cases hx
  ·cases hx;rw[h3];have hr:=zJk h.sr.weak _ _ _ _ _ hm h2;have hn:∀j,j<news.length->β (st.length+j)=none:=λj _=>by
    cases hx:β (st.length+j)with
    |none=>rfl
    |some x=>have:=h.dom _ _ hx;omega
   refine(zN2 h.sr.weak h.imb h.gl hn e2 hr).mono ?_;rintro e w' ⟨v,β',I',rfl,o1,o2⟩;obtain⟨s1,s2⟩:=h.outN o1 o2 o.dst;exact⟨_,_,β',I',e3,s1,s2,zAl _ _ _,λk x _ hx=>by rw[o1.be k (.inl (h.dom k x hx))];exact hx⟩
  cases hx
 ·rename_i p k b fz hd;obtain⟨e1,e2,e3⟩:=he;obtain⟨w',I',y,v,h1,hy,h2,h3⟩:=zQy (P:=P) (T:=T) h o hd e1 e2;rw[h1];rcases hy with⟨rfl,rfl⟩|rfl
  ·exact⟨_,_,β,I',e3,h2,h3,zAl _ _ _,Kp.refl _ _⟩
  exact⟨_,_,β,I',e3,h2,h3,zAl _ _ _,Kp.refl _ _⟩
 ·rename_i p k b d hd;obtain⟨e1,e2,e3⟩:=he;obtain⟨v,w',β',h1,h2,h3,h4⟩:=zSc (P:=P) (T:=T) h o hd e1 e2.2;rw[h1];exact⟨_,_,β',I,e3,h2,h3,zAl _ _ _,λj x hj hx=>by rw[h4 j (λe=>by rw[e,e2.1]at hj;cases hj)];exact hx⟩
 rename_i f args hd;obtain⟨e1,_,ch,x,st',⟨e2,e2k⟩,e3⟩:=he;obtain⟨f',args',vs,h1,h2,h3⟩:=zKm hM h.rel o e1 (by simp) (.inr ⟨_,_,rfl⟩) hd;rcases zBc h1 with hx|⟨xs,ks,hx,_⟩|⟨hx,_⟩
 ·cases hx
 ·cases hx
 cases hx;rw[h3];refine(e2 β I w vs h2 h.sr h.inj h.fz h.dom h.imb h.gl).mono ?_;rintro e w' ⟨v,β',I',rfl,k1,k2,k3,k4,k5,k6,k7,k8⟩;have hk:RelT I' w' β' (sl.map (zCm ch)) a.tmps.toList:=by
  have:=(zHl (I:=I) (w:=w) (β:=β) (β':=β') (f:=zCm ch) (zS7 (λj y hj hy=>k3 j y hj hy))).1 h.rel
  exact RelT.mono k2.fix _ _ (BeLe.refl _) _ _ this
 exact⟨_,_,β',I',e3,⟨zFi hk k8 o.dst,k4,k5,k6,k7,k1,h.gl.mono k2.fix⟩,k2,zAl _ _ _,λj x hj hx=>k3 j x (λe=>by rw[e2k j e]at hj;cases hj) hx⟩
theorem zQo{ops:Array Oper}{dr:Bool}{o:Oper}{r:List Oper}{K:List D->List Bk->Prop}:seqW P T ops dr (o::r) sl st K=(match o.guard with
  |none=>effW P T dr o sl st (λsl st=>seqW P T ops dr r sl st K)
  |some (j,want)=>match((ops[j]?).bind (·.dst)).map (λt=>sl.getD t .unk)with
   |some (.val (.bool b))=>(b=want->effW P T dr o sl st (λsl st=>seqW P T ops dr r sl st K))/\(b=!want->seqW P T ops dr r (putD sl o.dst (.val undef)) st K)
   |some (.val (.tuple _))=>seqW P T ops dr r (putD sl o.dst (.val undef)) st K
   |_=>False):=by
 rw[seqW];rfl
theorem zLs{ops:Array Oper}{dr:Bool}{o:Oper}{N:List D->List Bk->Prop}(h:Sim β I w sl st a.tmps.toList)
  (he:match o.guard with
  |none=>effW P T dr o sl st N
  |some (j,want)=>match((ops[j]?).bind (·.dst)).map (λt=>sl.getD t .unk)with
   |some (.val (.bool b))=>(b=want->effW P T dr o sl st N)/\(b=!want->N (putD sl o.dst (.val undef)) st)
   |some (.val (.tuple _))=>N (putD sl o.dst (.val undef)) st
   |_=>False):
  (Region.wanted o (yielded ops a.tmps)=Ab/\effW P T dr o sl st N)\/(Region.wanted o (yielded ops a.tmps)=Ad/\N (putD sl o.dst (.val undef)) st):=by
 split at he
 ·rename_i hg;exact .inl ⟨by simp[Region.wanted,hg],he⟩
 rename_i j want hg;have hyl:∀t v,(ops[j]?).bind (·.dst)=Aa t->Rel I w β (sl.getD t .unk) v->v=a.eval (.tmp t)->∀u,sl.getD t .unk= .val u->a.tmps[t]?=Aa u:=by
  intro t v ht hr hv u hu;have hlt:t<sl.length:=by
   grind
  obtain⟨v',k1,k2⟩:=h.rel.get t sl[t] (Aj hlt);have:sl[t]= .val u:=by rw[AC,Aj hlt]at hu;exact hu
  rw[this]at k2;simp only[Rel]at k2;subst k2;simpa using k1
 cases ht:(ops[j]?).bind (·.dst)with
 |none=>simp[ht]at he
 | some t=>
  simp only[ht,Aq]at he;have hr:=zAi h.rel (.tmp t);split at he
  ·rename_i b hb;have hu:=hyl t _ ht hr rfl (.bool b) (by simpa using hb);have hy:yielded ops a.tmps j=Aa b:=by simp[yielded,ht,hu]
   by_cases hw:b=want
   ·exact .inl ⟨by simp[Region.wanted,hg,hy,hw],he.1 hw⟩
   exact .inr ⟨by simp[Region.wanted,hg,hy,hw],he.2 (by cases b<;>cases want<;>simp_all)⟩
  ·rename_i vs hb;have hu:=hyl t _ ht hr rfl (.tuple vs) (by simpa using hb);have hy:yielded ops a.tmps j=none:=by simp[yielded,ht,hu]
   exact .inr ⟨by simp[Region.wanted,hg,hy],he⟩
  exact he.elim
theorem Sim.skip(h:Sim β I w sl st a.tmps.toList)(dst:Option Nat):Sim β I w (putD sl dst (.val undef)) st (a.put dst undef).tmps.toList:=h.light (Rel.valI _) dst
theorem zK0(hM:zBi P T){ops:Array Oper}{dr:Bool}{Q:Exit->Act->World->Prop}:∀(is:List Nat)(os:List Oper),is.map (λi=>ops[i]?)=os.map Aa->∀(sl:List D)(st:List Bk)(β:Be)(I:Im)(a:Act)(w:World)(K:List D->List Bk->Prop),
  seqW P T ops dr os sl st K->Sim β I w sl st a.tmps.toList->(∀a' w',zYy T K β I w a.defers a' w'->Q .normal a' w')->wpOps P ops Q is a w
 |[],os,hl,sl,st,β,I,a,w,K,hq,h,hQ=>by
  cases os with
  |nil=>exact hQ a w ⟨sl,st,β,I,hq,h,Stp.refl _ _ _,rfl,Kp.refl _ _⟩
  |cons o os=>simp at hl
 |i::is,[],hl,sl,st,β,I,a,w,K,hq,h,hQ=>by simp at hl
 | i::is,o::os,hl,sl,st,β,I,a,w,K,hq,h,hQ=>by
  simp only[Au,List.cons.injEq]at hl;obtain⟨hi,hl⟩:=hl;rw[wpOps_cons];unfold wpOp;simp only[hi];rw[zQo]at hq;rcases zLs (ops:=ops) h hq with⟨k1,k2⟩|⟨k1,k2⟩
  ·rw[if_pos k1];refine .inl (Oper.wp_mono (λa' w' ha=>?_) (zNb hM o k2 h Q));obtain⟨sl',st',β',I',q1,q2,q3,q4,q5⟩:=ha;exact zK0 hM is os hl sl' st' β' I' a' w' K q1 q2 (λa'' w'' ⟨x1,x2,x3,x4,y1,y2,y3,y4,y5⟩=>hQ a'' w'' ⟨x1,x2,x3,x4,y1,y2,q3.trans y3,y4.trans q4,q5.trans y5⟩)
  rw[if_neg (by simp[k1])];exact zK0 hM is os hl _ _ β I _ w K k2 (h.skip o.dst) (λa'' w'' ⟨x1,x2,x3,x4,y1,y2,y3,y4,y5⟩=>hQ a'' w'' ⟨x1,x2,x3,x4,y1,y2,y3,y4.trans (zAl _ _ _),y5⟩)
end
section
variable {P : Program} {T : Par} {I I' : Im} {w w' : World} {β β' : Be} {sl : List D} {st : List Bk} {a : Act} {ops : Array Oper}
def zBt(P:Program)(T:Par)(ops:Array Oper)(o:Oper)(sl:List D)(st:List Bk)(N:List D->List Bk->Prop):Prop:=
  match o.guard with
    |none=>effW P T Ab o sl st N
    | some (j,want)=>match((ops[j]?).bind (·.dst)).map (λt=>sl.getD t .unk)with
      |some (.val (.bool b))=>(b=want->effW P T Ab o sl st N)/\(b=!want->N (putD sl o.dst (.val undef)) st)
      |some (.val (.tuple _))=>N (putD sl o.dst (.val undef)) st
      |_=>False
def Eqs(sl':List D)(st':List Bk):List D->List Bk->Prop:=λx y=>x=sl'/\y=st'
theorem effW_pick{o:Oper}{N:List D->List Bk->Prop}(h:effW P T Ab o sl st N):∃sl' st',effW P T Ab o sl st (Eqs sl' st')/\N sl' st':=by
  cases he:aeff P T o.op o.type (evD sl) st with
  |bad=>simp only[effW,he]at h
  |lit p d=>simp only[effW,he]at h⊢;exact⟨_,_,⟨h.1,h.2.1,rfl,rfl⟩,h.2.2⟩
  |get p d=>simp only[effW,he]at h⊢;exact⟨_,_,⟨h.1,h.2.1,rfl,rfl⟩,h.2.2⟩
  |new p b d fz=>simp only[effW,he]at h⊢;exact⟨_,_,⟨h.1,h.2.1,rfl,rfl⟩,h.2.2⟩
  | call f args fz=>
    simp only[effW,he]at h⊢;obtain⟨h1,news,x,h2,h3⟩:=h;exact⟨_,_,⟨h1,news,x,h2,rfl,rfl⟩,h3⟩
  |put p k b fz=>simp only[effW,he]at h⊢;exact⟨_,_,⟨h.1,h.2.1,rfl,rfl⟩,h.2.2⟩
  |app p k b d=>simp only[effW,he]at h⊢;exact⟨_,_,⟨h.1,h.2.1,rfl,rfl⟩,h.2.2⟩
  | act f args=>
    simp only[effW,he]at h⊢;obtain⟨h1,h0,ch,x,st',h2,h3⟩:=h;exact⟨_,_,⟨h1,h0,ch,x,st',h2,rfl,rfl⟩,h3⟩
theorem zFx{o:Oper}{N:List D->List Bk->Prop}:zBt P T ops o sl st N↔(match o.guard with
    |none=>effW P T Ab o sl st N
    | some (j,want)=>match((ops[j]?).bind (·.dst)).map (λt=>sl.getD t .unk)with
      |some (.val (.bool b))=>(b=want->effW P T Ab o sl st N)/\(b=!want->N (putD sl o.dst (.val undef)) st)
      |some (.val (.tuple _))=>N (putD sl o.dst (.val undef)) st
      |_=>False):=Iff.rfl
theorem zNo {o:Oper}{N:List D->List Bk->Prop}(h:zBt P T ops o sl st N):(effW P T Ab o sl st N/\∀M,effW P T Ab o sl st M->zBt P T ops o sl st M)\/(N (putD sl o.dst (.val undef)) st/\∀M:List D->List Bk->Prop,M (putD sl o.dst (.val undef)) st->zBt P T ops o sl st M):=by
  rw[zFx]at h;simp only[zFx];cases hg:o.guard with
  |none=>simp only[hg]at h⊢;exact .inl ⟨h,λM h=>h⟩
  | some g=>
    obtain⟨j,want⟩:=g;simp only[hg]at h⊢;cases hb:((ops[j]?).bind (·.dst)).map (λt=>sl.getD t .unk)with
    |none=>rw[hb]at h;exact h.elim
    | some d=>
      simp only[hb]at h⊢;cases d with
      | val v=>
        cases v with
        | bool b=>
          simp only at h⊢;by_cases hw:b=want
          ·grind
          · have hw':b=!want:=by cases b<;>cases want<;>simp_all
            grind
        |tuple vs=>exact .inr ⟨h,λM h=>h⟩
        |_=>exact h.elim
      |_=>exact h.elim
theorem zZn{o:Oper}{N:List D->List Bk->Prop}(h:zBt P T ops o sl st N):∃sl' st',zBt P T ops o sl st (Eqs sl' st')/\N sl' st':=by
  rcases zNo h with⟨h1,h2⟩|⟨h1,h2⟩
  ·grind [effW_pick]
  exact⟨_,_,h2 _ ⟨rfl,rfl⟩,h1⟩
theorem trace:∀(os:List Oper)(sl:List D)(st:List Bk)(K:List D->List Bk->Prop),seqW P T ops Ab os sl st K->∃(S:Nat->List D)(R:Nat->List Bk),S 0=sl/\R 0=st/\K (S os.length) (R os.length)/\
    ∀(p:Nat) o,os[p]?=Aa o->zBt P T ops o (S p) (R p) (Eqs (S (p+1)) (R (p+1)))
  |[],sl,st,K,h=>⟨λ_=>sl,λ_=>st,rfl,rfl,h,by simp⟩
  | o::os,sl,st,K,h=>by
    rw[zQo]at h;obtain⟨sl',st',h1,h2⟩:=zZn (P:=P) (T:=T) (ops:=ops) (o:=o) (sl:=sl) (st:=st) (N:=λsl st=>seqW P T ops Ab os sl st K) h;obtain⟨S,R,k1,k2,k3,k4⟩:=trace os sl' st' K h2;refine⟨λp=>match p with|0=>sl|p+1=>S p,λp=>match p with|0=>st|p+1=>R p,rfl,rfl,k3,λp o' hp=>?_⟩;grind
theorem zQh{o:Oper}(hE:isE T o.op=Ad){sl':List D}{st':List Bk}(h:zBt P T ops o sl st (Eqs sl' st')):∃d fz news,sl'=putD sl o.dst d/\st'=zAo st fz++news:=by
  rcases zNo h with⟨h,_⟩|⟨h,_⟩
  · unfold effW at h
    split at h
    ·exact h.elim
    ·exact⟨_,[],[],h.2.2.1.symm,by rw[<-h.2.2.2];simp[zAo]⟩
    ·exact⟨_,[],[],h.2.2.1.symm,by rw[<-h.2.2.2];simp[zAo]⟩
    ·exact⟨_,_,_,h.2.2.1.symm,h.2.2.2.symm⟩
    · obtain⟨h1,news,x,h2,h3⟩:=h
      exact⟨_,_,_,h3.1.symm,h3.2.symm⟩
    all_goals grind
  exact⟨_,[],[],h.1.symm,by rw[<-h.2];simp[zAo]⟩
theorem zNj{op:Op}{ty:TypeId}{ρ ρ':Operand->D}(h:∀x∈op.operands,ρ x=ρ' x):aeff P T op ty ρ st=aeff P T op ty ρ' st:=by
  cases op with
  | build t ps=>
    have:(ps.toList.map λp=>(p.1,ρ p.2))=ps.toList.map λp=>(p.1,ρ' p.2):=AY λp hp=>by
      rw[h p.2 (by simp only[Op.operands,Bm,A4];exact⟨p,hp,rfl⟩)]
    simp only[aeff,this]
  | buildSlice t n ps=>
    have:(ps.toList.map λp=>(p.1,ρ p.2))=ps.toList.map λp=>(p.1,ρ' p.2):=AY λp hp=>by
      rw[h p.2 (by simp only[Op.operands,Bm,A4];exact⟨p,hp,rfl⟩)]
    simp only[aeff,this]
  | makeFunc f x y=>
    have h1:x.toList.map ρ=x.toList.map ρ':=AY λp hp=>h p (by simp[Op.operands];exact .inl (by simpa using hp));have h2:y.toList.map ρ=y.toList.map ρ':=AY λp hp=>h p (by simp[Op.operands];exact .inr (by simpa using hp));simp only[aeff,h1,h2]
  | slice t x lo hi mx=>
    have h1:ρ x=ρ' x:=h x (by simp[Op.operands]);have h2:lo.map ρ=lo.map ρ':=by cases lo with|none=>rfl|some y=>simp[h y (by simp[Op.operands])]
    have h3:hi.map ρ=hi.map ρ':=by cases hi with|none=>rfl|some y=>simp[h y (by simp[Op.operands])]
    have h4:mx.map ρ=mx.map ρ':=by cases mx with|none=>rfl|some y=>simp[h y (by simp[Op.operands])]
    simp only[aeff,h1,h2,h3,h4]
  | makeMap t r=>
    have h1:r.map ρ=r.map ρ':=by cases r with|none=>rfl|some y=>simp[h y (by simp[Op.operands])]
    simp only[aeff,h1]
  | call c=>
    obtain⟨callee,args,ts⟩:=c;have h1:args.toList.map ρ=args.toList.map ρ':=AY λp hp=>h p (by simp only[Op.operands,Call.operands,Array.mem_append];exact .inr (by simpa using hp));cases callee with
    | value f=>
      have h2:ρ f=ρ' f:=h f (by simp[Op.operands,Call.operands]);simp only[aeff,h1,h2]
    | invoke r n=>
      have h2:ρ r=ρ' r:=h r (by simp[Op.operands,Call.operands]);simp only[aeff,h1,h2]
    | builtin b=>
      cases b<;>simp only[aeff,h1];all_goals grind
  | _=>first
    |rfl
    | (simp only[Op.operands,Bm,List.mem_cons,List.not_mem_nil,or_false,forall_eq_or_imp,forall_eq]at h
       simp only[aeff,h])
end
section
variable {P : Program} {T : Par} {ops : Array Oper} {ord : List Nat}
theorem zN4{i:Nat}(h:i∈ord):ord[pos ord i]?=Aa i/\pos ord i<ord.length:=by
 grind [pos,List.findIdx_lt_length_of_exists,List.findIdx_getElem,Aj]
theorem zBl(hn:ord.Nodup){p i:Nat}(h:ord[p]?=Aa i):pos ord i=p:=by
 grind [A5,zN4,Ak,Aj,pos,Ah.inj,AZ,Br]
structure RegF(T:Par)(ops:Array Oper)(ord:List Nat)(W:Nat->Nat->Bool)(Lt:Nat->List Nat):Prop where
 len:ord.length=ops.size
 nodup:ord.Nodup
 mem:∀i,i<ops.size↔i∈ord
 nosel:Region.noSelect ops=Ab
 dep:∀(i:Nat)(o:Oper),ops[i]?=Aa o->∀d∈deps o,d<ops.size/\pos ord d<pos ord i
 anc:∀(i:Nat)(o:Oper)(x:Nat),ops[i]?=Aa o->x<ops.size->W i x=Ab->∃d∈deps o,d=x\/W d x=Ab
 dst:∀(i j:Nat)(oi oj:Oper)(d:Nat),ops[i]?=Aa oi->ops[j]?=Aa oj->i≠j->oi.dst=Aa d->oj.dst≠Aa d
 haz:∀(i j:Nat)(oi oj:Oper)(d:Nat),ops[i]?=Aa oi->ops[j]?=Aa oj->i≠j->oj.dst=Aa d->d∈oi.looksAt ops->W i j=Ab\/W j i=Ab
 lig:∀(i j:Nat)(oi oj:Oper),ops[i]?=Aa oi->ops[j]?=Aa oj->i≠j->zY T oi.op=Ab->oi.apart ops oj=Ab\/i∈deps oj\/W i j=Ab
 eff1:∀(i j:Nat)(oi oj:Oper),ops[i]?=Aa oi->ops[j]?=Aa oj->i≠j->isE T oi.op=Ab->pos ord j<pos ord i->W i j=Ab\/j∈Lt i\/(zY T oj.op=Ab/\∀d∈deps oj,d∉Lt i)
 eff2:∀(i j:Nat)(oi oj:Oper),ops[i]?=Aa oi->ops[j]?=Aa oj->i≠j->isE T oi.op=Ab->¬pos ord j<pos ord i->∃d∈deps oj,pos ord i<=pos ord d
 latE:∀(e i:Nat),i∈Lt e->∃oi,ops[i]?=Aa oi/\isE T oi.op=Ad/\zDh oi.op=Ad/\oi.guard=Ac/\(∀d,oi.dst=Aa d->d∉oi.looksAt ops)/\∀(j:Nat)(oj:Oper)(d:Nat),ops[j]?=Aa oj->i≠j->oj.dst=Aa d->d∈oi.looksAt ops->W i j=Ab
 latA:∀(e:Nat)(oe:Oper),ops[e]?=Aa oe->isE T oe.op=Ab->∀j∈Lt e,zDh oe.op=Ab->noNew T (ops.getD j Ai).op=Ab
theorem zWm(A:List Nat)(x:Nat):∀(ds:List Nat)(m:Nat),(ds.foldl (λm d=>m|||2^d|||A.getD d 0) m).testBit x=Ab->m.testBit x=Ab\/∃d∈ds,d=x\/(A.getD d 0).testBit x=Ab
 |[],m,h=> .inl h
 |d::ds,m,h=>by
  rw[List.foldl_cons]at h;rcases zWm A x ds _ h with h|⟨e,he,h⟩;all_goals grind
theorem zMi(ops:Array Oper):∀(l A:List Nat)(j:Nat),j∉l->(zP4 ops l A).getD j 0=A.getD j 0
 |[],A,j,_=>rfl
 |i::r,A,j,h=>by
  have hne:i≠j:=λe=>h (by rw[e];exact AM ..);rw[zP4,zMi ops r _ j (λk=>h (AS _ k))];grind
theorem zXq(ops:Array Oper):∀(l A:List Nat),l.Nodup->(∀j∈l,j<A.length)->∀(p i x:Nat),l[p]?=Aa i->(∀d∈deps (ops.getD i Ai),∀q,l[q]?=Aa d->q<p)->
  ((zP4 ops l A).getD i 0).testBit x=Ab->∃d∈deps (ops.getD i Ai),d=x\/((zP4 ops l A).getD d 0).testBit x=Ab
 |[],A,_,_,p,i,x,hp,_,_=>by simp at hp
 | i0::r,A,hn,hl,p,i,x,hp,hd,hb=>by
  rw[List.nodup_cons]at hn;rw[zP4]at hb⊢;cases p with
  | zero=>
   simp only[A7,Ah.injEq]at hp;subst hp;have hlt:i0<A.length:=hl i0 (AM ..);rw[zMi ops r _ i0 hn.1,AC,AW hlt,Option.getD_some]at hb;rcases zWm A x _ 0 hb with h|⟨d,hd',h⟩
   ·simp at h
   refine⟨d,hd',h.imp id λh=>?_⟩;have hdn:d∉i0::r:=λhm=>by
    obtain⟨q,hq⟩:=A6.1 hm
    have:=hd d hd' q hq
    omega
   have hne:i0≠d:=λe=>hdn (by rw[<-e];exact AM ..);rw[zMi ops r _ d (λk=>hdn (AS _ k)),AC,AH hne,<-AC];exact h
  |succ p=>
   refine zXq ops r _ hn.2 (λj hj=>by rw[Ba];exact hl j (AS _ hj)) p i x (by simpa using hp) (λd hd' q hq=>?_) hb
   have:=hd d hd' (q+1) (by simpa using hq)
   omega
theorem RegF.of{l0:List Nat}{its:List zJr}(h:zK7 T ops l0 its=Ab):RegF T ops (zD2 l0 its) (λi x=>((zP4 ops (zD2 l0 its) (A1 ops.size 0)).getD i 0).testBit x) (zM2 its):=by
 unfold zK7 at h;generalize hord:zD2 l0 its=ord at h;simp only[Av,beq_iff_eq,AE,List.mem_range,decide_eq_true_eq]at h;obtain⟨⟨⟨⟨⟨⟨⟨h1,h2⟩,h3⟩,h4⟩,h5⟩,hD⟩,h6⟩,h7⟩:=h;have mz:∀(i:Nat) o,ops[i]?=Aa o->(o,i)∈ops.toList.zipIdx:=λi o ho=>List.mem_zipIdx_iff_getElem?.2 (by rw[AN];exact ho);have hdst:∀(i j:Nat)(oi oj:Oper)(d:Nat),ops[i]?=Aa oi->ops[j]?=Aa oj->i≠j->oi.dst=Aa d->oj.dst≠Aa d:=by
  have hp:=List.pairwise_filterMap.1 hD;rw[Br]at hp;grind
 have look:∀(i j:Nat)(oi oj:Oper)(d:Nat),ops[i]?=Aa oi->ops[j]?=Aa oj->i≠j->oj.dst=Aa d->d∈oi.looksAt ops->_:=λi j oi oj d hi hj hne hd hl=>by
  have:=(h6 _ (mz i oi hi)).1.2 d hl _ (mz j oj hj)
  simp only[A8,bne_iff_ne,ne_eq,beq_iff_eq]at this
  have:=(this.resolve_left (λk=>k.elim (λk=>k hd) hne))
  exact this
 refine⟨h1,h3,λi=>⟨λhi=>by simpa using h4 i hi,λhi=>h2 i hi⟩,h5,λi o ho d hd=>?_,λi o x ho hx hw=>?_,hdst,λi j oi oj d hi hj hne hd hl=>?_,λi j oi oj hi hj hne hl=>?_,λi j oi oj hi hj hne hE hp=>?_,λi j oi oj hi hj hne hE hp=>?_,λe i hl=>?_,λe oe he hE j hne hcv=>?_⟩
 ·exact(h6 _ (mz i o ho)).1.1 d hd
 ·have hi:=(Ao.1 ho).1;have him:i∈ord:=by simpa using h4 i hi
  have hod:ops.getD i Ai=o:=by simp[ho]
  have hda:=(h6 _ (mz i o ho)).1.1;obtain⟨p1,p2⟩:=zN4 him;rw[<-hod]at hda⊢;exact zXq ops ord _ h3 (λj hj=>by rw[List.length_replicate];exact h2 j hj) (pos ord i) i x p1 (λd hd q hq=>by
   have h9:pos ord d<pos ord i:=(hda d hd).2;have e:=zBl h3 hq;show q<pos ord i;rw[e]at h9;exact h9) hw
 ·grind
 ·by_cases c1:∃d,oj.dst=Aa d/\d∈oi.looksAt ops
  ·obtain⟨d,hd,hl'⟩:=c1;grind
  by_cases c2:∃d,oi.dst=Aa d/\d∈oj.looksAt ops
  ·obtain⟨d,hd,hl'⟩:=c2;grind
  left;unfold Oper.apart;rw[Av];constructor
  ·cases hd:oi.dst with
   |none=>rfl
   |some d=>
    grind
  cases hd:oj.dst with
  |none=>rfl
  |some d=>
   grind
 ·have:=(h6 _ (mz i oi hi)).2
  simp only[hE,Bool.not_true,Bn,Av,AE]at this
  have:=this.2 _ (mz j oj hj)
  grind
 ·have:=(h6 _ (mz i oi hi)).2
  simp only[hE,Bool.not_true,Bn,Av,AE]at this
  have:=this.2 _ (mz j oj hj)
  simp only[A8,beq_iff_eq]at this
  have:=this.resolve_left hne
  rw[if_neg hp]at this;obtain⟨d,hd,h7⟩:=List.any_eq_true.1 this;grind
 ·unfold zM2 at hl;split at hl
  ·rename_i sg hsg;obtain⟨y,hy,rfl⟩:=A4.1 hl;have h8:=h7 sg (List.mem_of_find?_eq_some hsg) y hy;simp only[A3]at h8;obtain⟨⟨⟨⟨k1,k2⟩,k4⟩,k5⟩,k3⟩:=h8;have ho:ops[y.1]?=Aa (ops.getD y.1 Ai):=by simp[k1]
   refine⟨_,ho,k2,k4,Bq.1 k5,λd hd hl=>?_,λj oj d hj hne hd hl=>?_⟩
   ·grind
   grind
  cases hl
 grind
theorem zZ7(h:zX4 T ops ord=Ab):zK7 T ops ord []=true:=by
 have hL:∀e,zM2 [] e=[]:=λe=>rfl;have ho:zD2 ord []=ord:=by simp[zD2,zA7]
 unfold zX4 at h;unfold zK7;simp only[ho,hL];simp only[Av]at h⊢;refine⟨⟨h.1,?_⟩,by simp⟩;have h2:=h.2;rw[AE]at h2⊢;intro p hp;have h3:=h2 p hp;rw[Av]at h3⊢;refine⟨h3.1,?_⟩;rw[A8]at h3⊢;refine h3.2.imp id λh4=>?_;rw[Av];refine⟨by simp,?_⟩;rw[AE]at h4⊢;grind
theorem zKg{o:Oper}{d:Nat}:d∈deps o↔∃e∈o.after,Region.binds .any e=Ab/\e.on=d:=by
 unfold deps;grind
def Ls(listed:Array Bool)(i:Nat):Prop:=listed.getD i Ad=Ab
theorem zL8{listed:Array Bool}(h:Closed .any ops listed){i:Nat}{o:Oper}(ho:ops[i]?=Aa o)(hi:Ls listed i):∀d∈deps o,Ls listed d:=λd hd=>by
 obtain⟨e,he,hb,rfl⟩:=zKg.1 hd;exact h i o ho hi e he hb
theorem zCq{W:Nat->Nat->Bool}{Lt:Nat->List Nat}(R:RegF T ops ord W Lt){listed:Array Bool}(h:Closed .any ops listed)(i:Nat)(o:Oper)(x:Nat):ops[i]?=Aa o->x<ops.size->(∀d∈deps o,Ls listed d)->W i x=Ab->Ls listed x:=by
 suffices H:∀n i o,pos ord i=n->ops[i]?=Aa o->x<ops.size->(∀d∈deps o,Ls listed d)->W i x=Ab->Ls listed x from H _ i o rfl
 intro n;induction n using Nat.strongRecOn with
 | _ n ih=>
  intro i o hn ho hx hd hw;obtain⟨d,hd',h1⟩:=R.anc i o x ho hx hw;rcases h1 with rfl|h1
  ·exact hd d hd'
  have hlt:=R.dep i o ho d hd';have hod:ops[d]?=Aa ops[d]:=by simp[hlt.1]
  exact ih (pos ord d) (by omega) d _ rfl hod hx (zL8 h hod (hd d hd')) h1
theorem zMj{W:Nat->Nat->Bool}{Lt:Nat->List Nat}(R:RegF T ops ord W Lt)(i:Nat)(o:Oper)(x:Nat):ops[i]?=Aa o->x<ops.size->W i x=Ab->pos ord x<pos ord i:=by
 suffices H:∀n i o,pos ord i=n->ops[i]?=Aa o->x<ops.size->W i x=Ab->pos ord x<pos ord i from H _ i o rfl
 intro n;induction n using Nat.strongRecOn with
 |_ n ih=>
  intro i o hn ho hx hw;obtain⟨d,hd',h1⟩:=R.anc i o x ho hx hw;have hdp:=R.dep i o ho d hd';grind
theorem zB8{listed:Array Bool}(hs:listed.size=ops.size){i:Nat}:i∈Region.ready .any ops listed↔¬Ls listed i/\∃o,ops[i]?=Aa o/\∀d∈deps o,Ls listed d:=by
 rw[mem_ready];constructor
 ·rintro⟨h1,o,ho,h2⟩;refine⟨λh=>?_,o,ho,λd hd=>?_⟩;all_goals grind [Ls,Ao,zKg]
 rintro⟨h1,o,ho,h2⟩;refine⟨?_,o,ho,λe he hb=>h2 _ (zKg.2 ⟨e,he,hb,rfl⟩)⟩;grind [Ls,Ao]
theorem ls_set{listed:Array Bool}{i j:Nat}(hi:i<listed.size):Ls (listed.setIfInBounds i Ab) j↔j=i\/Ls listed j:=by
 unfold Ls;by_cases h:i=j
 ·subst h;simp[hi]
 rw[getD_set_ne Ad h];grind
structure Seg(P:Program)(T:Par)(ops:Array Oper)(ord:List Nat)(S:Nat->List D)(R:Nat->List Bk)(s t:Nat):Prop where
 le:s<=t
 step:∀p,s<=p->p<t->∃i o,ord[p]?=Aa i/\ops[i]?=Aa o/\isE T o.op=Ad/\zBt P T ops o (S p) (R p) (Eqs (S (p+1)) (R (p+1)))
theorem SameB.refl(e:Bk):SameB e e:=⟨rfl,rfl,rfl,rfl,rfl,id⟩
theorem SameB.trans{a b c:Bk}(h:SameB a b)(k:SameB b c):SameB a c:=⟨k.1.trans h.1,k.2.1.trans h.2.1,k.2.2.1.trans h.2.2.1,k.2.2.2.1.trans h.2.2.2.1,k.2.2.2.2.1.trans h.2.2.2.2.1,λx=>k.2.2.2.2.2 (h.2.2.2.2.2 x)⟩
theorem OwnRel.same{I:Im}{w:World}{β:Be}{b c:Nat}{e e':Bk}(h:SameB e e'):OwnRel I w β b c e↔OwnRel I w β b c e':=by
 obtain⟨h1,h2,h3,h4,h5,_⟩:=h;exact⟨λk=>k.like h1 h2 h3 h4 h5,λk=>k.like h1.symm h2.symm h3.symm h4.symm h5.symm⟩
theorem Seg.store{S:Nat->List D}{R:Nat->List Bk}{s t:Nat}(h:Seg P T ops ord S R s t):∀n p,s<=p->p+n<=t->(R p).length<=(R (p+n)).length/\∀(k:Nat) e,(R p)[k]?=Aa e->∃e',(R (p+n))[k]?=Aa e'/\SameB e e':=by
 intro n;induction n with
 |zero=>intro p _ _;exact⟨Af _,λk e he=>⟨e,he,SameB.refl e⟩⟩
 | succ n ih=>
  intro p hp hpt;obtain⟨i1,i2⟩:=ih p hp (by omega);obtain⟨i,o,k1,k2,k3,k4⟩:=h.step (p+n) (by omega) (by omega);obtain⟨d,fz,news,k5,k6⟩:=zQh k3 k4;rw[show p+(n+1)=p+n+1 by omega,k6];refine⟨by rw[AF,zAa];omega,λk e he=>?_⟩;obtain⟨e',m1,m2⟩:=i2 k e he;refine⟨if k∈fz then{e' with fz:=Ab}else e',?_,m2.trans ?_⟩
  ·grind [AQ,zAa,Ak,zBa]
  split
  ·exact⟨rfl,rfl,rfl,rfl,rfl,λ_=>rfl⟩
  exact SameB.refl e'
theorem Seg.store'{S:Nat->List D}{R:Nat->List Bk}{s t p q:Nat}(h:Seg P T ops ord S R s t)(h1:s<=p)(h2:p<=q)(h3:q<=t):(R p).length<=(R q).length/\∀(k:Nat) e,(R p)[k]?=Aa e->∃e',(R q)[k]?=Aa e'/\SameB e e':=by
 have:=h.store (q-p) p h1 (by omega)
 grind
theorem zGq(sl:List D)(dst:Option Nat)(d:D):(putD sl dst d).length=sl.length:=by cases dst<;>simp[putD]
theorem zC2{sl:List D}{dst:Option Nat}{d:D}{x:Nat}(h:dst≠Aa x):(putD sl dst d)[x]?=sl[x]?:=by
 cases dst with
 |none=>rfl
 |some i=>simp only[putD];rw[AH (λe=>h (by rw[e]))]
theorem Seg.slot{S:Nat->List D}{R:Nat->List Bk}{s t:Nat}(h:Seg P T ops ord S R s t):∀n p,s<=p->p+n<=t->(S (p+n)).length=(S p).length/\∀x,(∀q i o,p<=q->q<p+n->ord[q]?=Aa i->ops[i]?=Aa o->o.dst≠Aa x)->(S (p+n))[x]?=(S p)[x]?:=by
 intro n;induction n with
 |zero=>intro p _ _;exact⟨rfl,λx _=>rfl⟩
 |succ n ih=>
  intro p hp hpt;obtain⟨i1,i2⟩:=ih p hp (by omega);obtain⟨i,o,k1,k2,k3,k4⟩:=h.step (p+n) (by omega) (by omega);obtain⟨d,fz,news,k5,k6⟩:=zQh k3 k4;grind [zGq,zC2]
theorem Seg.slot'{S:Nat->List D}{R:Nat->List Bk}{s t p q:Nat}(h:Seg P T ops ord S R s t)(h1:s<=p)(h2:p<=q)(h3:q<=t):(S q).length=(S p).length/\∀x,(∀r i o,p<=r->r<q->ord[r]?=Aa i->ops[i]?=Aa o->o.dst≠Aa x)->(S q)[x]?=(S p)[x]?:=by
 have:=h.slot (q-p) p h1 (by omega)
 grind
end
section
variable {P : Program} {T : Par} {ops : Array Oper} {ord : List Nat} {I I' : Im} {w w' : World} {β β' : Be} {sl SL : List D} {st : List Bk} {a : Act}
inductive NF(P:Program)(T:Par)(o:Oper)(ρ:Operand->D)(st:List Bk):D->List Nat->List Bk->Prop where
 |lit {p:Prop} {d:D}:aeff P T o.op o.type ρ st= .lit p d->zY T o.op=Ab->p->NF P T o ρ st d [] []
 |get {p:Prop} {d:D}:aeff P T o.op o.type ρ st= .get p d->zY T o.op=Ad->p->NF P T o ρ st d [] []
 |new {p:Prop} {b:Bk} {d:D} {fz:List Nat}:aeff P T o.op o.type ρ st= .new p b d fz->zY T o.op=Ad->p->NF P T o ρ st d fz [b]
 |call {f:FuncId} {args:List D} {fz:List Nat} {news:List Bk} {x:D}:aeff P T o.op o.type ρ st= .call f args fz->zY T o.op=Ad->Pure P f args news x->NF P T o ρ st (if news.isEmpty then x else zBf st.length x) fz news
def StepN(P:Program)(T:Par)(ops:Array Oper)(o:Oper)(sl:List D)(st:List Bk)(sl':List D)(st':List Bk):Prop:=
 (gv ops o sl=Aa Ab/\∃d fz news,NF P T o (evD sl) st d fz news/\sl'=putD sl o.dst d/\st'=zAo st fz++news)\/(gv ops o sl=Aa Ad/\sl'=putD sl o.dst (.val undef)/\st'=st)
theorem effW_NF{o:Oper}(hE:isE T o.op=Ad){sl':List D}{st':List Bk}(h:effW P T Ab o sl st (Eqs sl' st')):∃d fz news,NF P T o (evD sl) st d fz news/\sl'=putD sl o.dst d/\st'=zAo st fz++news:=by
 unfold effW at h;split at h
 ·exact h.elim
 ·rename_i hx;exact⟨_,[],[], .lit hx h.1 h.2.1,h.2.2.1.symm,by rw[<-h.2.2.2];simp[zAo]⟩
 ·rename_i hx;exact⟨_,[],[], .get hx h.1 h.2.1,h.2.2.1.symm,by rw[<-h.2.2.2];simp[zAo]⟩
 ·rename_i hx;exact⟨_,_,_, .new hx h.1 h.2.1,h.2.2.1.symm,h.2.2.2.symm⟩
 ·rename_i hx;obtain⟨h1,news,x,h2,h3⟩:=h;exact⟨_,_,_, .call hx h1 h2,h3.1.symm,h3.2.symm⟩
 all_goals grind
theorem zQi{o:Oper}(hE:isE T o.op=Ad){sl':List D}{st':List Bk}(h:zBt P T ops o sl st (Eqs sl' st')):StepN P T ops o sl st sl' st':=by
 rw[zFx]at h;unfold StepN gv;cases hg:o.guard with
 |none=>simp only[hg]at h⊢;exact .inl ⟨trivial,effW_NF hE h⟩
 | some g=>
  obtain⟨j,want⟩:=g;simp only[hg]at h⊢;cases hb:((ops[j]?).bind (·.dst)).map (λt=>sl.getD t .unk)with
  |none=>rw[hb]at h;exact h.elim
  | some d=>
   simp only[hb]at h⊢;cases d with
   | val v=>
    cases v with
    | bool b=>
     simp only at h⊢;by_cases hw:b=want
     ·grind [effW_NF]
     have:=h.2 (by cases b<;>cases want<;>simp_all)
     exact .inr ⟨by simpa using hw,this.1.symm,this.2.symm⟩
    |tuple vs=>exact .inr ⟨rfl,h.1.symm,h.2.symm⟩
    |_=>exact h.elim
   |_=>exact h.elim
theorem zTj{o:Oper}(h:∀x∈o.looksAt ops,SL.getD x .unk=sl.getD x .unk):∀x∈o.op.operands,evD SL x=evD sl x:=by
 intro x hx;cases x with
 |tmp t=>
  refine h t ?_;unfold Oper.looksAt;refine List.mem_append_left _ (List.mem_filterMap.2 ⟨.tmp t,by simpa using hx,rfl⟩)
 |_=>rfl
theorem zPl{o:Oper}(h:∀x∈o.looksAt ops,SL.getD x .unk=sl.getD x .unk):gv ops o SL=gv ops o sl:=by
 unfold gv;cases hg:o.guard with
 |none=>rfl
 | some g=>
  obtain⟨j,want⟩:=g;simp only;cases hd:(ops[j]?).bind (·.dst)with
  |none=>rfl
  |some t=>
   have:SL.getD t .unk=sl.getD t .unk:=h t (by unfold Oper.looksAt;exact List.mem_append_right _ (by simp[hg,hd]));grind
theorem NF.look{o:Oper}(h:∀x∈o.looksAt ops,SL.getD x .unk=sl.getD x .unk){d:D}{fz:List Nat}{news:List Bk}(hn:NF P T o (evD sl) st d fz news):NF P T o (evD SL) st d fz news:=by
 have hc:aeff P T o.op o.type (evD SL) st=aeff P T o.op o.type (evD sl) st:=zNj (zTj h);cases hn with
 |lit h1 h2 h3=>exact .lit (hc.trans h1) h2 h3
 |get h1 h2 h3=>exact .get (hc.trans h1) h2 h3
 |new h1 h2 h3=>exact .new (hc.trans h1) h2 h3
 |call h1 h2 h3=>exact .call (hc.trans h1) h2 h3
theorem zF7{o:Oper}(hr:RelT I w β SL a.tmps.toList){b:Bool}(h:gv ops o SL=Aa b):Region.wanted o (yielded ops a.tmps)=b:=by
 have hyl:∀t u,SL.getD t .unk= .val u->a.tmps[t]?=Aa u:=by
  intro t u hu;have hlt:t<SL.length:=by
   grind
  obtain⟨v',k1,k2⟩:=hr.get t SL[t] (Aj hlt);have:SL[t]= .val u:=by rw[AC,Aj hlt]at hu;exact hu
  rw[this]at k2;simp only[Rel]at k2;subst k2;simpa using k1
 unfold gv at h;cases hg:o.guard with
 |none=>simp only[hg]at h;cases h;simp[Region.wanted,hg]
 | some g=>
  obtain⟨j,want⟩:=g;simp only[hg]at h;cases ht:(ops[j]?).bind (·.dst)with
  |none=>simp[ht]at h
  | some t=>
   simp only[ht,Aq]at h;split at h
   ·rename_i b' hb;have hy:yielded ops a.tmps j=Aa b':=by simp[yielded,ht,hyl t _ (by simpa using hb)]
    cases h;simp only[Region.wanted,hg,hy];cases b'<;>cases want<;>rfl
   ·rename_i vs hb;have hy:yielded ops a.tmps j=none:=by simp[yielded,ht,hyl t _ (by simpa using hb)]
    cases h;simp[Region.wanted,hg,hy]
   cases h
theorem NF.light{o:Oper}{d:D}{fz:List Nat}{news:List Bk}(hn:NF P T o (evD SL) st d fz news)(hl:zY T o.op=Ab)(hr:RelT I w β SL a.tmps.toList):fz=[]/\news=[]/\∃v,(∀W:World,(execOp a.eval o).run P W= .ok (.value v) W)/\Rel I w β d v:=by
 cases hn<;>grind [zLn]
theorem NF.heavy(hM:zBi P T){o:Oper}{d:D}{fz:List Nat}{news:List Bk}(hn:NF P T o (evD SL) st d fz news)(hl:zY T o.op=Ad)(hr:RelT I w β SL a.tmps.toList)(hs:SRw β I w st)(hi:ImB I w)(hg:Gl I w)(hfr:∀j,j<news.length->β (st.length+j)=Ac)(Q:Exit->Act->World->Prop):
  o.wp P a w (λa' w'=>∃v β' I',a'=a.put o.dst v/\OutN β I w st news fz β' I' w'/\Rel I' w' β' d v) Q:=by
 unfold Oper.wp;cases hn with
 |lit h1 h2 h3=>rw[hl]at h2;cases h2
 |get h1 h2 h3=>
  obtain⟨v,k1,k2⟩:=zLv (P:=P) (T:=T) hr hs o h2 h1 h3;rw[k1];exact⟨v,β,I,rfl,OutN.stay β I w st,k2⟩
 |new h1 h2 h3=>
  obtain⟨v,w',β',I',k1,k2,k3⟩:=zLg (P:=P) (T:=T) hr hs hi (by simpa using hfr 0 (by simp)) o h2 h1 h3;rw[k1];exact⟨v,β',I',rfl,k2,k3⟩
 | call h1 h2 h3=>
  obtain⟨f',args',vs,k1,k2,k3⟩:=zKm hM hr o h2 (by simp) (.inl ⟨_,_,_,rfl⟩) h1;rcases zBc k1 with hx|⟨xs,ks,hx,_,hm,_⟩|⟨hx,_⟩
  ·cases hx
  ·cases hx;rw[k3];refine(zN2 hs hi hg hfr h3 (zJk hs _ _ _ _ _ hm k2)).mono ?_;grind
  cases hx
end
section
variable {P : Program} {T : Par} {ops : Array Oper} {ord : List Nat} {I I' : Im} {w w' : World} {β β' : Be} {sl sl' SL : List D} {st st' : List Bk} {a : Act} {X : List Nat} {K : List D → List Bk → Prop}
def unkS(X:List Nat)(sl:List D):List D:=X.foldl (λs x=>s.set x .unk) sl
theorem zEm:∀(X:List Nat)(sl:List D),(unkS X sl).length=sl.length
 |[],sl=>rfl
 |x::X,sl=>by
  show(unkS X (sl.set x .unk)).length=_;rw[zEm X];simp
theorem zG3:∀(X:List Nat)(sl:List D)(x:Nat),(unkS X sl)[x]?=if x∈X then(sl[x]?).map (λ_=> .unk)else sl[x]?
 |[],sl,x=>by simp[unkS]
 |y::X,sl,x=>by
  show(unkS X (sl.set y .unk))[x]?=_;rw[zG3 X,Bc];grind
theorem zVl{x:Nat}(h:x∉X):(unkS X sl)[x]?=sl[x]?:=by rw[zG3,if_neg h]
theorem zKs{x:Nat}(h:x∉X):(unkS X sl).getD x .unk=sl.getD x .unk:=by grind [zVl]
theorem zDk{dst:Option Nat}{d:D}(h:∀x,dst=Aa x->x∉X):putD (unkS X sl) dst d=unkS X (putD sl dst d):=by
 cases dst with
 |none=>rfl
 |some y=>
  have hy:=h y rfl;simp only[putD];apply AK;grind [zG3,zEm]
theorem zVm{f:D->D}(hf:f .unk= .unk):(unkS X sl).map f=unkS X (sl.map f):=by
 apply AK;grind [zG3]
theorem killK_unk(k:Nat):zA6 k .unk= .unk:=by simp[zA6]
theorem zS6(ch:List Nat):zCm ch .unk= .unk:=by simp[zCm]
theorem unkS_rel{tm:List Value}(hl:SL.length=sl.length)(h:RelT I w β SL tm)(hx:∀x,x∉X->SL[x]?=sl[x]?):RelT I w β (unkS X sl) tm:=by
 refine RelT.of_get (by rw[zEm,<-hl,h.length]) λx d v hd hv=>?_;rw[zG3]at hd;split at hd
 ·obtain⟨y,_,rfl⟩:=As.1 hd;simp only[Rel]
 rename_i hn;rw[<-hx x hn]at hd;obtain⟨v',k1,k2⟩:=h.get x d hd;rw[hv]at k1;cases k1;exact k2
theorem zRv{o:Oper}(h:effW P T Ab o sl st (Eqs sl' st'))(hl:∀x∈o.looksAt ops,x∉X)(hd:∀x,o.dst=Aa x->x∉X):effW P T Ab o (unkS X sl) st (Eqs (unkS X sl') st'):=by
 have hc:aeff P T o.op o.type (evD (unkS X sl)) st=aeff P T o.op o.type (evD sl) st:=zNj (zTj λx hx=>zKs (hl x hx));unfold effW at h⊢;rw[hc];split at h
 ·exact h.elim
 ·obtain⟨e1,e2,h1,h2⟩:=h;exact⟨e1,e2,by rw[zDk hd,h1],h2⟩
 ·obtain⟨e1,e2,h1,h2⟩:=h;exact⟨e1,e2,by rw[zDk hd,h1],h2⟩
 ·obtain⟨e1,e2,h1,h2⟩:=h;exact⟨e1,e2,by rw[zDk hd,h1],h2⟩
 ·obtain⟨e1,news,x,e2,h1,h2⟩:=h;exact⟨e1,news,x,e2,by rw[zDk hd,h1],h2⟩
 ·obtain⟨e1,e2,h1,h2⟩:=h;exact⟨e1,e2,by rw[zDk hd,h1],h2⟩
 ·obtain⟨e1,e2,h1,h2⟩:=h;exact⟨e1,e2,by rw[zVm (killK_unk _),zDk hd,h1],h2⟩
 obtain⟨e1,e2,ch,x,st1,e3,h1,h2⟩:=h;exact⟨e1,e2,ch,x,st1,e3,by rw[zVm (zS6 _),zDk hd,h1],h2⟩
theorem zZo{o:Oper}(h:zBt P T ops o sl st (Eqs sl' st'))(hl:∀x∈o.looksAt ops,x∉X)(hd:∀x,o.dst=Aa x->x∉X):zBt P T ops o (unkS X sl) st (Eqs (unkS X sl') st'):=by
 have skip:∀d,Eqs sl' st' (putD sl o.dst d) st->Eqs (unkS X sl') st' (putD (unkS X sl) o.dst d) st:=λd h=>⟨by rw[zDk hd,h.1],h.2⟩;rw[zFx]at h⊢;cases hg:o.guard with
 |none=>simp only[hg]at h⊢;exact zRv h hl hd
 | some g=>
  obtain⟨j,want⟩:=g;simp only[hg]at h⊢;cases hb:(ops[j]?).bind (·.dst)with
  |none=>rw[hb]at h;exact h.elim
  | some t=>
   have ht:t∈o.looksAt ops:=by unfold Oper.looksAt;exact List.mem_append_right _ (by simp[hg,hb])
   simp only[hb,Aq,zKs (hl t ht)]at h⊢;revert h;cases sl.getD t .unk with
   |val v=>
    cases v with
    |bool b=>exact λh=>⟨λhb=>zRv (h.1 hb) hl hd,λhb=>skip _ (h.2 hb)⟩
    |tuple vs=>exact λh=>skip _ h
    |_=>exact λh=>h
   |_=>exact λh=>h
theorem zPa{o:Op}{ty:TypeId}{ρ:Operand->D}{p:Prop}{b:Bk}{d:D}{fz:List Nat}(h:aeff P T o ty ρ st= .new p b d fz)(hl:zY T o=Ad)(hE:isE T o=Ad):
  (d= .own st.length 0\/(∃l m,d= .osl st.length 0 l m Ab)\/d= .mref st.length)/\∀ρ' st' e',aeff P T o ty ρ' st'=e'->e'= .bad\/∃p' b' d' fz',e'= .new p' b' d' fz':=by
 cases o<;>simp only[zY,AJ]at hl<;>simp only[isE,AJ,reduceCtorEq]at hE<;>simp only[aeff,reduceCtorEq]at h;case alloc=>
  refine⟨?_,λρ' st' e' he=>?_⟩
  ·split at h
   ·cases h;exact .inl rfl
   cases h
  simp only[aeff]at he;split at he
  ·exact .inr ⟨_,_,_,_,he.symm⟩
  exact .inl he.symm
 case box=>
  refine⟨?_,λρ' st' e' he=>?_⟩
  ·split at h
   ·cases h;exact .inl rfl
   cases h
  simp only[aeff]at he;split at he
  ·exact .inr ⟨_,_,_,_,he.symm⟩
  exact .inl he.symm
 case buildSlice=>
  refine⟨?_,λρ' st' e' he=>by simp only[aeff]at he;exact zE6 he⟩;split at h
  ·unfold zC1 at h;split at h
   ·split at h
    ·split at h
     ·cases h;exact .inr (.inl ⟨_,_,rfl⟩)
     cases h
    cases h
   cases h
  unfold zCs at h;split at h
  ·split at h
   ·split at h
    ·cases h;exact .inr (.inl ⟨_,_,rfl⟩)
    cases h
   cases h
  cases h
 case makeSlice=>
  refine⟨?_,λρ' st' e' he=>by simp only[aeff]at he;exact zEx he⟩;unfold zEg at h;split at h
  ·split at h
   ·cases h;exact .inr (.inl ⟨_,_,rfl⟩)
   cases h
  cases h
 case makeMap=>
  refine⟨?_,λρ' st' e' he=>?_⟩
  ·split at h
   ·cases h;exact .inr (.inr rfl)
   ·cases h;exact .inr (.inr rfl)
   cases h
  simp only[aeff]at he;split at he
  ·exact .inr ⟨_,_,_,_,he.symm⟩
  ·exact .inr ⟨_,_,_,_,he.symm⟩
  exact .inl he.symm
 case lookup=>rcases zFl h with h|⟨_,_,h⟩<;>cases h
 case convert=>
  split at h
  ·rcases zGe h with h|⟨_,_,h⟩<;>cases h
  simp only[AU]at hl;rename_i hne;exact absurd hl hne
 case load=>
  split at h
  ·rcases zDs h with h|⟨_,_,h⟩<;>cases h
  ·split at h
   ·split at h
    ·cases h
    rcases zDs h with h|⟨_,_,h⟩<;>cases h
   cases h
  cases h
 case call c=>
  exfalso;obtain⟨callee,args,ts⟩:=c;split at h
  ·split at h
   ·split at h
    ·rcases zHh h with h|⟨_,_,h⟩<;>cases h
    unfold aLen at h;split at h<;>first|cases h|(split at h<;>cases h)
   cases h
  ·split at h<;>cases h
  ·split at h<;>cases h
  ·rename_i hc;subst hc;simp at hE
  ·split at h
   ·rcases zC0 h with h|⟨_,_,_,_,h⟩<;>cases h
   cases h
  ·split at h
   ·rcases zB6 h with h|⟨_,_,_,_,h⟩<;>cases h
   cases h
  ·cases h
  ·split at h
   ·rcases zBc h with h|⟨_,_,h,_⟩|⟨h,_⟩<;>cases h
   cases h
  split at h
  ·split at h
   ·rcases zBc h with h|⟨_,_,h,_⟩|⟨h,_⟩<;>cases h
   cases h
  cases h
theorem zZm{o:Oper}(h:zBt P T ops o sl st (Eqs sl' st')){x:Nat}(hx:o.dst≠Aa x):sl'[x]?=sl[x]?\/sl'[x]?=Aa .unk\/∃cs n,sl'[x]?=Aa (.row cs n):=by
 have kill:∀(f:D->D)(d:D),(∀d,f d=d\/f d= .unk\/∃cs n,f d= .row cs n)->putD (sl.map f) o.dst d=sl'->sl'[x]?=sl[x]?\/sl'[x]?=Aa .unk\/∃cs n,sl'[x]?=Aa (.row cs n):=by
  intro f d hf he;grind [zC2]
 rcases zNo h with⟨h,_⟩|⟨h,_⟩
 ·unfold effW at h;split at h
  ·exact h.elim
  ·exact .inl (by rw[<-h.2.2.1,zC2 hx])
  ·exact .inl (by rw[<-h.2.2.1,zC2 hx])
  ·exact .inl (by rw[<-h.2.2.1,zC2 hx])
  ·obtain⟨_,news,y,_,h3⟩:=h;exact .inl (by rw[<-h3.1,zC2 hx])
  ·exact .inl (by rw[<-h.2.2.1,zC2 hx])
  ·exact kill _ _ (λd=>by
    unfold zA6;split
    ·split
     ·exact .inr (.inr ⟨_,_,rfl⟩)
     exact .inr (.inl rfl)
    exact .inl rfl) h.2.2.1
  obtain⟨_,_,ch,y,st1,_,h3⟩:=h;exact kill _ _ (λd=>by unfold zCm;split<;>simp) h3.1
 exact .inl (by rw[<-h.1,zC2 hx])
theorem zXs{o:Op}{ty:TypeId}{ρ:Operand->D}{f:FuncId}{xs:List D}(h:aeff P T o ty ρ st= .act f xs)(hE:isE T o=Ab):zDh o=true:=by
 unfold isE at hE;split at hE
 ·simp only[aeff]at h;grind
 ·simp only[aeff]at h;rcases zA8 h with h|⟨_,_,_,_,h⟩<;>cases h
 ·simp only[aeff]at h;rcases zA8 h with h|⟨_,_,_,_,h⟩<;>cases h
 ·simp only[aeff]at h;split at h
  ·rcases zKp h with h|⟨_,_,_,_,h⟩|⟨_,_,_,_,h⟩<;>cases h
  cases h
 ·simp only[aeff]at h;split at h
  ·rcases zC0 h with h|⟨_,_,_,_,h⟩<;>cases h
  cases h
 ·simp only[aeff]at h;split at h
  ·rcases zB6 h with h|⟨_,_,_,_,h⟩<;>cases h
  cases h
 ·rfl
 ·rfl
 cases hE
theorem zZp{o:Oper}(h:zBt P T ops o sl st (Eqs sl' st'))(hE:isE T o.op=Ab)(hc:zDh o.op=Ad):st.length<=st'.length:=by
 rcases zNo h with⟨h,_⟩|⟨h,_⟩
 ·unfold effW at h;split at h
  ·exact h.elim
  ·rw[<-h.2.2.2];exact Af _
  ·rw[<-h.2.2.2];exact Af _
  ·rw[<-h.2.2.2,AF,zAa];omega
  ·obtain⟨_,news,y,_,h3⟩:=h;rw[<-h3.2,AF,zAa];omega
  ·rw[<-h.2.2.2,Ba,zAa];exact Af _
  ·rw[<-h.2.2.2,Ba,Bl];exact Af _
  grind [zXs]
 rw[<-h.2];exact Af _
theorem noNew_len{o:Oper}(h:zBt P T ops o sl st (Eqs sl' st'))(hE:isE T o.op=Ad)(hn:noNew T o.op=Ab):st'.length=st.length:=by
 rcases zQi hE h with⟨_,d,fz,news,n1,n2,n3⟩|⟨_,_,h⟩
 ·have key:∀e,aeff P T o.op o.type (evD sl) st=e->zY T o.op=Ad->e= .bad\/∃p d,e= .get p d:=by
   intro e he hl;unfold noNew at hn;rw[hl,Bn]at hn;split at hn
   ·rename_i t a ho;rw[ho]at he;simp only[aeff]at he;split at he
    ·exact zDs he
    ·split at he
     ·split at he
      ·exact .inl he.symm
      exact zDs he
     exact .inl he.symm
    exact .inl he.symm
   ·rename_i t x i ok ho;rw[ho]at he;simp only[aeff]at he;exact zFl he
   cases hn
  cases n1<;>grind [zAa]
 rw[h]
theorem app_names{o:Oper}{p:Prop}{k:Nat}{b:Bk}{d:D}(he:aeff P T o.op o.type (evD sl) st= .app p k b d)(hE:isE T o.op=Ab):∃y∈o.op.operands,refs k (evD sl y)=true:=by
 generalize o.op=op at he hE;unfold isE at hE;split at hE
 ·simp only[aeff]at he;grind
 ·simp only[aeff]at he;rcases zA8 he with h|⟨_,_,_,_,h⟩<;>cases h
 ·simp only[aeff]at he;rcases zA8 he with h|⟨_,_,_,_,h⟩<;>cases h
 ·simp only[aeff]at he;split at he
  ·rename_i args ts _ _ t u s x hts hargs;have key:∀{sh:Bool}{e1 e2:TypeId}{i:TypeInfo}{z xs:List D}{m:Nat},aApp sh e1 e2 i z xs m (unB (evD sl s)) st= .app p k b d->refs k (evD sl s)=true:=by
    intro sh e1 e2 i z xs m h;unfold aApp at h;split at h
    ·cases h
    ·rename_i k' n mm hs;split at h
     ·simp only[Eff.app.injEq]at h;rw[<-h.2.1,<-refs_unB,hs];simp[refs]
     cases h
    cases h
   refine⟨s,?_,?_⟩
   ·simp only[Op.operands,Call.operands,Array.mem_append];grind [AM]
   grind [zFv]
  cases he
 ·simp only[aeff]at he;split at he
  ·rcases zC0 he with h|⟨_,_,_,_,h⟩<;>cases h
  cases he
 ·simp only[aeff]at he;split at he
  ·rcases zB6 he with h|⟨_,_,_,_,h⟩<;>cases h
  cases he
 ·simp only[aeff,evD]at he;rcases zBc he with h|⟨_,_,h,_⟩|⟨h,_⟩<;>cases h
 ·simp only[aeff]at he;split at he
  ·rcases zBc he with h|⟨_,_,h,_⟩|⟨h,_⟩<;>cases h
  cases he
 cases hE
theorem zYh(hM:zBi P T)(o:Oper)(he:effW P T Ab o sl st (Eqs sl' st'))(hE:isE T o.op=Ab)(hc:zDh o.op=Ad)(h:Sim β I w sl st a.tmps.toList)(Q:Exit->Act->World->Prop):
  o.wp P a w (λa' w'=>∃β' I',Sim β' I' w' sl' st' a'.tmps.toList/\Stp β I w β' I' w'/\a'.defers=a.defers/\Kp T β β'/\∀k,k<st.length->β k=Ac->(∀y∈o.op.operands,refs k (evD sl y)=Ad)->β' k=Ac) Q:=by
 unfold effW at he;unfold Oper.wp;split at he
 ·exact he.elim
 ·rename_i p d hd;obtain⟨e1,e2,rfl,rfl⟩:=he;obtain⟨v,h1,h2⟩:=zLn (P:=P) (T:=T) (st:=st) h.rel o e1 hd e2;rw[h1 w];exact⟨β,I,h.light h2 o.dst,Stp.refl _ _ _,zAl _ _ _,Kp.refl _ _,λk _ hk _=>hk⟩
 ·rename_i p d hd;obtain⟨e1,e2,rfl,rfl⟩:=he;obtain⟨v,h1,h2⟩:=zLv (P:=P) (T:=T) h.rel h.sr.weak o e1 hd e2;rw[h1];exact⟨β,I,h.light h2 o.dst,Stp.refl _ _ _,zAl _ _ _,Kp.refl _ _,λk _ hk _=>hk⟩
 ·rename_i p b d fz hd;obtain⟨e1,e2,rfl,rfl⟩:=he;have hn:β st.length=none:=by
   cases hx:β st.length with
   |none=>rfl
   |some x=>have:=h.dom _ _ hx;omega
  obtain⟨v,w',β',I',h1,h2,h3⟩:=zLg (P:=P) (T:=T) h.rel h.sr.weak h.imb hn o e1 hd e2;rw[h1];obtain⟨s1,s2⟩:=h.outN h2 h3 o.dst;exact⟨β',I',s1,s2,zAl _ _ _,λk x _ hx=>by rw[h2.be k (.inl (h.dom k x hx))];exact hx,λk hk hb _=>by rw[h2.be k (.inl hk)];exact hb⟩
 ·rename_i f args fz hd;obtain⟨e1,news,x,e2,rfl,rfl⟩:=he;obtain⟨f',args',vs,h1,h2,h3⟩:=zKm hM h.rel o e1 (by simp) (.inl ⟨_,_,_,rfl⟩) hd;rcases zBc h1 with hx|⟨xs,ks,hx,_,hm,_⟩|⟨hx,_⟩
  ·cases hx
  ·cases hx;rw[h3];have hr:=zJk h.sr.weak _ _ _ _ _ hm h2;have hn:∀j,j<news.length->β (st.length+j)=none:=λj _=>by
    cases hx:β (st.length+j)with
    |none=>rfl
    |some x=>have:=h.dom _ _ hx;omega
   refine(zN2 h.sr.weak h.imb h.gl hn e2 hr).mono ?_;rintro e w' ⟨v,β',I',rfl,o1,o2⟩;obtain⟨s1,s2⟩:=h.outN o1 o2 o.dst;exact⟨β',I',s1,s2,zAl _ _ _,λk x _ hx=>by rw[o1.be k (.inl (h.dom k x hx))];exact hx,λk hk hb _=>by rw[o1.be k (.inl hk)];exact hb⟩
  cases hx
 ·rename_i p k b fz hd;obtain⟨e1,e2,rfl,rfl⟩:=he;obtain⟨w',I',y,v,h1,hy,h2,h3⟩:=zQy (P:=P) (T:=T) h o hd e1 e2;rw[h1];rcases hy with⟨rfl,rfl⟩|rfl
  ·exact⟨β,I',h2,h3,zAl _ _ _,Kp.refl _ _,λk _ hk _=>hk⟩
  exact⟨β,I',h2,h3,zAl _ _ _,Kp.refl _ _,λk _ hk _=>hk⟩
 ·rename_i p k b d hd;obtain⟨e1,e2,rfl,rfl⟩:=he;obtain⟨v,w',β',h1,h2,h3,h4⟩:=zSc (P:=P) (T:=T) h o hd e1 e2.2;rw[h1];refine⟨β',I,h2,h3,zAl _ _ _,λj x hj hx=>by rw[h4 j (λe=>by rw[e,e2.1]at hj;cases hj)];exact hx,λj _ hj hf=>?_⟩;grind [app_names]
 grind [zXs]
theorem traceI:∀(its:List zJr)(sl:List D)(st:List Bk)(K:List D->List Bk->Prop),seqI P T ops its sl st K->∃(S:Nat->List D)(R:Nat->List Bk),S 0=sl/\R 0=st/\K (S (zA7 its).length) (R (zA7 its).length)/\
  (∀(p i:Nat),(zA7 its)[p]?=Aa i->zBt P T ops (ops.getD i Ai) (S p) (R p) (Eqs (S (p+1)) (R (p+1))))/\
  (∀pre x post,its=pre++x::post->(∀y∈x.2.1,y.2<(R (zA7 pre).length).length->zRm (ops.getD x.1 Ai) y.2 (S (zA7 pre).length))/\lateN P T ops x.2.1 (R (zA7 pre).length).length (S ((zA7 pre).length+1)) (R ((zA7 pre).length+1)))
 |[],sl,st,K,h=>⟨λ_=>sl,λ_=>st,rfl,rfl,h,by simp[zA7],λpre x post he=>by simp at he⟩
 | (e,c,l)::its,sl,st,K,h=>by
  obtain⟨h1,h2⟩:=h;obtain⟨S1,R1,a1,a2,⟨a3,a4⟩,a5⟩:=trace _ sl st _ h2;obtain⟨S2,R2,b1,b2,b3,b4⟩:=trace _ _ _ _ a4;obtain⟨S3,R3,c1,c2,c3,c4,c5⟩:=traceI its _ _ K b3;have hl:(l.map λi=>ops.getD i Ai).length=l.length:=by simp
  simp only[hl]at c1 c2 b3;have hord:zA7 ((e,c,l)::its)=e::(l++zA7 its):=by simp[zA7]
  have e1:(zA7 ((e,c,l)::its)).length=(l.length+(zA7 its).length)+1:=by rw[hord];simp
  have fin:∀q,(if l.length+q<=l.length then S2 (l.length+q)else S3 (l.length+q-l.length))=S3 q/\(if l.length+q<=l.length then R2 (l.length+q)else R3 (l.length+q-l.length))=R3 q:=by
   intro q;by_cases hq:q=0
   ·subst hq;simp[c1,c2]
   rw[if_neg (by omega),if_neg (by omega),show l.length+q-l.length=q by omega];exact⟨rfl,rfl⟩
  refine⟨λq=>match q with
   |0=>sl
   |p+1=>if p<=l.length then S2 p else S3 (p-l.length),λq=>match q with
   |0=>st
   |p+1=>if p<=l.length then R2 p else R3 (p-l.length),rfl,rfl,?_,λp i hp=>?_,λpre x post he=>?_⟩
  ·grind
  ·rw[hord]at hp;cases p with
   |zero=>
    simp only[A7,Ah.injEq]at hp;subst hp
    have:=a5 0 (ops.getD e Ai) rfl
    simp_all
   | succ p=>
    simp only[List.getElem?_cons_succ]at hp;rcases AG p l.length with hlt|hge
    ·rw[AQ hlt]at hp
     have:=b4 p (ops.getD i Ai) (by rw[Ax,hp];rfl)
     grind
    rw[AV hge]at hp
    have:=c4 (p-l.length) i hp
    have f1:=fin (p-l.length);have f2:=fin (p-l.length+1);rw[show l.length+(p-l.length)=p by omega]at f1;grind
  cases pre with
  |nil=>
   simp only[List.nil_append,List.cons.injEq]at he;obtain⟨rfl,rfl⟩:=he;refine⟨h1,?_⟩;simp only[zA7,List.flatMap_nil,List.length_nil,AO,AI,if_true,b1,b2];exact a3
  |cons y pre=>
   simp only[Bb,List.cons.injEq]at he;obtain⟨rfl,rfl⟩:=he;obtain⟨k1,k2⟩:=c5 pre x post rfl;have e2:(zA7 ((e,c,l)::pre)).length=(l.length+(zA7 pre).length)+1:=by simp[zA7]
   have f1:=fin (zA7 pre).length;have f2:=fin ((zA7 pre).length+1);rw[e2];grind
theorem traceF{l0:List Nat}{its:List zJr}(h:seqF P T ops l0 its sl st K):∃(S:Nat->List D)(R:Nat->List Bk),S 0=sl/\R 0=st/\K (S (zD2 l0 its).length) (R (zD2 l0 its).length)/\
  (∀(p i:Nat),(zD2 l0 its)[p]?=Aa i->zBt P T ops (ops.getD i Ai) (S p) (R p) (Eqs (S (p+1)) (R (p+1))))/\
  (∀pre x post,its=pre++x::post->(∀y∈x.2.1,y.2<(R (l0.length+(zA7 pre).length)).length->zRm (ops.getD x.1 Ai) y.2 (S (l0.length+(zA7 pre).length)))/\lateN P T ops x.2.1 (R (l0.length+(zA7 pre).length)).length (S (l0.length+(zA7 pre).length+1)) (R (l0.length+(zA7 pre).length+1))):=by
 obtain⟨S2,R2,b1,b2,b3,b4⟩:=trace _ sl st _ h;obtain⟨S3,R3,c1,c2,c3,c4,c5⟩:=traceI its _ _ K b3;have hl:(l0.map λi=>ops.getD i Ai).length=l0.length:=by simp
 simp only[hl]at c1 c2 b3;have fin:∀q,(if l0.length+q<=l0.length then S2 (l0.length+q)else S3 (l0.length+q-l0.length))=S3 q/\(if l0.length+q<=l0.length then R2 (l0.length+q)else R3 (l0.length+q-l0.length))=R3 q:=by
  grind
 refine⟨λp=>if p<=l0.length then S2 p else S3 (p-l0.length),λp=>if p<=l0.length then R2 p else R3 (p-l0.length),by simp[b1],by simp[b2],?_,λp i hp=>?_,λpre x post he=>?_⟩
 ·rw[zD2,AF];simp only[fin];exact c3
 ·rw[zD2]at hp;rcases AG p l0.length with hlt|hge
  ·rw[AQ hlt]at hp
   have:=b4 p (ops.getD i Ai) (by rw[Ax,hp];rfl)
   grind
  rw[AV hge]at hp
  have:=c4 (p-l0.length) i hp
  have f1:=fin (p-l0.length);have f2:=fin (p-l0.length+1);rw[show l0.length+(p-l0.length)=p by omega]at f1;grind
 obtain⟨k1,k2⟩:=c5 pre x post he;grind
end
section
variable {P : Program} {T : Par} {ops : Array Oper} {ord : List Nat} {W : Nat → Nat → Bool} {Lt : Nat → List Nat} {S : Nat → List D} {R : Nat → List Bk} {Q : Exit → Act → World → Prop}
def LateAt(P:Program)(T:Par)(ops:Array Oper)(W:Nat->Nat->Bool)(S:Nat->List D)(R:Nat->List Bk)(s i:Nat):Prop:=∃o n,ops[i]?=Aa o/\isE T o.op=Ad/\zDh o.op=Ad/\o.guard=Ac/\(∀d,o.dst=Aa d->d∉o.looksAt ops)/\
 (∀(j:Nat)(oj:Oper)(d:Nat),ops[j]?=Aa oj->i≠j->oj.dst=Aa d->d∈o.looksAt ops->W i j=Ab)/\zHj P T ops o n (S s) (R s)
structure Inv(P:Program)(T:Par)(ops:Array Oper)(ord:List Nat)(W:Nat->Nat->Bool)(S:Nat->List D)(R:Nat->List Bk)(β0:Be)(I0:Im)(w0:World)(df:List Deferred)(s t:Nat)(listed:Array Bool)(a:Act)(w:World):Prop where
 size:listed.size=ops.size
 cl:Closed .any ops listed
 tn:t<=ops.size
 seg:Seg P T ops ord S R s t
 lo:∀p i,p<s->ord[p]?=Aa i->¬Ls listed i->LateAt P T ops W S R s i
 hi:∀p i,t<=p->ord[p]?=Aa i->¬Ls listed i
 atT:t=ops.size\/∃i o,ord[t]?=Aa i/\ops[i]?=Aa o/\isE T o.op=Ab
 df:a.defers=df
 mo:∀p i,p<s->ord[p]?=Aa i->¬Ls listed i->∀q,p<=q->q<s->(R q).length<=(R (q+1)).length
 ex:∃β I SL,RelT I w β SL a.tmps.toList/\SL.length=(S s).length/\
  (∀x,(∀p i o,s<=p->p<t->ord[p]?=Aa i->Ls listed i->ops[i]?=Aa o->o.dst≠Aa x)->(∀p i o,p<s->ord[p]?=Aa i->¬Ls listed i->ops[i]?=Aa o->o.dst≠Aa x)->SL[x]?=(S s)[x]?)/\
  (∀p i o x,s<=p->p<t->ord[p]?=Aa i->Ls listed i->ops[i]?=Aa o->o.dst=Aa x->SL[x]?=(S (p+1))[x]?)/\
  (∀k b c,β k=Aa (b,c)->∃e,(R t)[k]?=Aa e/\OwnRel I w β b c e)/\Inj β/\FZ β I (R t)/\ImB I w/\(Stp β0 I0 w0 β I w/\Kp T β0 β)/\
  (∀k x,β k=Aa x->k<(R s).length\/∃p i,s<=p/\p<t/\ord[p]?=Aa i/\Ls listed i/\(R p).length<=k/\k<(R (p+1)).length)/\
  (∀p i,p<s->ord[p]?=Aa i->¬Ls listed i->∀k,(R p).length<=k->k<(R (p+1)).length->β k=Ac)
variable {β0 : Be} {I0 : Im} {w0 : World} {df : List Deferred} {s t : Nat} {listed : Array Bool} {a : Act} {w : World}
theorem op_at(F:RegF T ops ord W Lt){i:Nat}{o:Oper}(ho:ops[i]?=Aa o):ord[pos ord i]?=Aa i/\pos ord i<ops.size:=by
 have hi:i∈ord:=(F.mem i).1 (Ao.1 ho).1
 have:=zN4 hi
 rw[F.len]at this;exact this
theorem Inv.place(F:RegF T ops ord W Lt)(h:Inv P T ops ord W S R β0 I0 w0 df s t listed a w){i:Nat}(hr:i∈Region.ready .any ops listed):∃o,ops[i]?=Aa o/\ord[pos ord i]?=Aa i/\(pos ord i<t\/pos ord i=t):=by
 obtain⟨hn,o,ho,hd⟩:=(zB8 h.size).1 hr;obtain⟨hp,hlt⟩:=op_at F ho;refine⟨o,ho,hp,?_⟩
 ·rcases AZ (pos ord i) t with h1|h1|h1
  ·exact .inl h1
  ·exact .inr h1
  exfalso;rcases h.atT with h2|⟨j,oj,j1,j2,j3⟩
  ·omega
  have hpj:pos ord j=t:=zBl F.nodup j1;have hne:j≠i:=λe=>by rw[e]at hpj;omega
  obtain⟨d,d1,d2⟩:=F.eff2 j i oj o j2 ho hne j3 (by omega);have hod:d<ops.size:=(F.dep i o ho d d1).1;have hpd:=zN4 ((F.mem d).1 hod);exact h.hi _ d (by omega) hpd.1 (hd d d1)
theorem Inv.look(F:RegF T ops ord W Lt)(h:Inv P T ops ord W S R β0 I0 w0 df s t listed a w){i:Nat}{o:Oper}(ho:ops[i]?=Aa o)(hn:¬Ls listed i)(hd:∀d∈deps o,Ls listed d)(h1:s<=pos ord i)(h2:pos ord i<t){SL:List D}
  (k1:SL.length=(S s).length)(k2:∀x,(∀p i o,s<=p->p<t->ord[p]?=Aa i->Ls listed i->ops[i]?=Aa o->o.dst≠Aa x)->(∀p i o,p<s->ord[p]?=Aa i->¬Ls listed i->ops[i]?=Aa o->o.dst≠Aa x)->SL[x]?=(S s)[x]?)
  (k3:∀p i o x,s<=p->p<t->ord[p]?=Aa i->Ls listed i->ops[i]?=Aa o->o.dst=Aa x->SL[x]?=(S (p+1))[x]?):
  ∀x∈o.looksAt ops,SL.getD x .unk=(S (pos ord i)).getD x .unk:=by
 intro x hx;have goal:SL[x]?=(S (pos ord i))[x]?:=by
  by_cases hw:∃p j oj,s<=p/\p<t/\ord[p]?=Aa j/\Ls listed j/\ops[j]?=Aa oj/\oj.dst=Aa x
  ·obtain⟨p,j,oj,a1,a2,a3,a4,a5,a6⟩:=hw;rw[k3 p j oj x a1 a2 a3 a4 a5 a6];have hpj:pos ord j=p:=zBl F.nodup a3;have hne:i≠j:=λe=>hn (e▸a4);have hlt:p<pos ord i:=by
    rcases F.haz i j o oj x ho a5 hne a6 hx with hz|hz
    ·grind [AG,pos,zMj,Ao]
    exact absurd (zCq F h.cl j oj i a5 (Ao.1 ho).1 (zL8 h.cl a5 a4) hz) hn
   refine((h.seg.slot' (by omega) (show p+1<=pos ord i by omega) (by omega)).2 x λr k ok b1 b2 b3 b4 b5=>?_).symm;have hpk:pos ord k=r:=zBl F.nodup b3;have hkj:k≠j:=λe=>by rw[e,hpj]at hpk;omega
   exact F.dst k j ok oj x b4 a5 hkj b5 a6
  rw[k2 x (λp j oj a1 a2 a3 a4 a5 a6=>hw ⟨p,j,oj,a1,a2,a3,a4,a5,a6⟩) (λp j oj a1 a2 a3 a4 a5=>by
   have hpj:pos ord j=p:=zBl F.nodup a2;have hne:i≠j:=λe=>by rw[<-e]at hpj;omega
   rcases F.haz i j o oj x ho a4 hne a5 hx with hz|hz
   ·exact a3 (zCq F h.cl i o j ho (Ao.1 a4).1 hd hz)
   have:=zMj F j oj i a4 (Ao.1 ho).1 hz
   omega)]
  refine((h.seg.slot' (Af _) h1 (by omega)).2 x λr k ok b1 b2 b3 b4 b5=>?_).symm;have hpk:pos ord k=r:=zBl F.nodup b3;have hne:i≠k:=λe=>by rw[<-e]at hpk;omega
  rcases F.haz i k o ok x ho b4 hne b5 hx with hz|hz
  ·have:Ls listed k:=zCq F h.cl i o k ho (Ao.1 b4).1 hd hz;grind
  have:=zMj F k ok i b4 (Ao.1 ho).1 hz
  omega
 grind
theorem Inv.lookL(F:RegF T ops ord W Lt)(h:Inv P T ops ord W S R β0 I0 w0 df s t listed a w){i:Nat}{o:Oper}(ho:ops[i]?=Aa o)(hn:¬Ls listed i)(hd:∀d∈deps o,Ls listed d)(h1:pos ord i<s)(hself:∀d,o.dst=Aa d->d∉o.looksAt ops)
  (hlate:∀(j:Nat)(oj:Oper)(d:Nat),ops[j]?=Aa oj->i≠j->oj.dst=Aa d->d∈o.looksAt ops->W i j=Ab){SL:List D}
  (k2:∀x,(∀p i o,s<=p->p<t->ord[p]?=Aa i->Ls listed i->ops[i]?=Aa o->o.dst≠Aa x)->(∀p i o,p<s->ord[p]?=Aa i->¬Ls listed i->ops[i]?=Aa o->o.dst≠Aa x)->SL[x]?=(S s)[x]?):
  ∀x∈o.looksAt ops,SL.getD x .unk=(S s).getD x .unk:=by
 intro x hx;rw[AC,AC,k2 x (λp j oj a1 a2 a3 a4 a5 a6=>?_) (λp j oj a1 a2 a3 a4 a5=>?_)]
 ·have hpj:pos ord j=p:=zBl F.nodup a3;have hne:i≠j:=λe=>by rw[<-e]at hpj;omega
  have:=zMj F i o j ho (Ao.1 a5).1 (hlate j oj x a5 hne a6 hx)
  omega
 by_cases hne:i=j
 ·grind
 exact a3 (zCq F h.cl i o j ho (Ao.1 a4).1 hd (hlate j oj x a4 hne a5 hx))
theorem Inv.grow(h:Inv P T ops ord W S R β0 I0 w0 df s t listed a w){p i:Nat}(hp:p<s)(hi:ord[p]?=Aa i)(hn:¬Ls listed i):∀m q,p<=q->q+m<=s->(R q).length<=(R (q+m)).length:=by
 intro m;induction m with
 |zero=>intro q _ _;exact Af _
 |succ m ih=>
  intro q hq hm;have h1:=ih q hq (by omega);have h2:=h.mo p i hp hi hn (q+m) (by omega) (by omega);grind
theorem Inv.grow'(h:Inv P T ops ord W S R β0 I0 w0 df s t listed a w){p i q r:Nat}(hp:p<s)(hi:ord[p]?=Aa i)(hn:¬Ls listed i)(h1:p<=q)(h2:q<=r)(h3:r<=s):(R q).length<=(R r).length:=by
 have:=h.grow hp hi hn (r-q) q h1 (by omega)
 grind
theorem Inv.next(F:RegF T ops ord W Lt)(h:Inv P T ops ord W S R β0 I0 w0 df s t listed a w){i:Nat}{o:Oper}(hr:i∈Region.ready .any ops listed)(ho:ops[i]?=Aa o)(h1:s<=pos ord i)(h2:pos ord i<t){β:Be}{I:Im}{SL:List D}
  (k0:RelT I w β SL a.tmps.toList)(k1:SL.length=(S s).length)(k2:∀x,(∀p i o,s<=p->p<t->ord[p]?=Aa i->Ls listed i->ops[i]?=Aa o->o.dst≠Aa x)->(∀p i o,p<s->ord[p]?=Aa i->¬Ls listed i->ops[i]?=Aa o->o.dst≠Aa x)->SL[x]?=(S s)[x]?)
  (k3:∀p i o x,s<=p->p<t->ord[p]?=Aa i->Ls listed i->ops[i]?=Aa o->o.dst=Aa x->SL[x]?=(S (p+1))[x]?)
  (k4:∀k b c,β k=Aa (b,c)->∃e,(R t)[k]?=Aa e/\OwnRel I w β b c e)(k5:Inj β)(k6:FZ β I (R t))(k7:ImB I w)(k8:Stp β0 I0 w0 β I w/\Kp T β0 β)
  (k9:∀k x,β k=Aa x->k<(R s).length\/∃p i,s<=p/\p<t/\ord[p]?=Aa i/\Ls listed i/\(R p).length<=k/\k<(R (p+1)).length)
  (k10:∀p i,p<s->ord[p]?=Aa i->¬Ls listed i->∀k,(R p).length<=k->k<(R (p+1)).length->β k=Ac)
  {d:D}{fz:List Nat}{news:List Bk}{β':Be}{I':Im}{w':World}{v:Value}(e1:S (pos ord i+1)=putD (S (pos ord i)) o.dst d)(e2:R (pos ord i+1)=zAo (R (pos ord i)) fz++news)
  (hout:OutN β I w (R (pos ord i)) news fz β' I' w')(hd:Rel I' w' β' d v):Inv P T ops ord W S R β0 I0 w0 df s t (listed.setIfInBounds i Ab) (a.put o.dst v) w':=by
 have hisz:i<listed.size:=by rw[h.size];exact(Ao.1 ho).1
 have hls:∀j,Ls (listed.setIfInBounds i Ab) j↔j=i\/Ls listed j:=λj=>ls_set hisz;have hpi:ord[pos ord i]?=Aa i:=(op_at F ho).1;have hnl:¬Ls listed i:=((zB8 h.size).1 hr).1;have hfr:∀k,(R (pos ord i)).length<=k->k<(R (pos ord i+1)).length->β k=none:=by
  intro k hk1 hk2;cases hb:β k with
  |none=>rfl
  | some x=>
   exfalso;rcases k9 k x hb with h3|⟨p,j,a1,a2,a3,a4,a5,a6⟩
   ·have:=(h.seg.store' (Af _) h1 (by omega)).1
    omega
   rcases AZ p (pos ord i)with h3|h3|h3
   ·have:=(h.seg.store' (show s<=p+1 by omega) (show p+1<=pos ord i by omega) (by omega)).1
    omega
   ·grind
   have:=(h.seg.store' (show s<=pos ord i+1 by omega) (show pos ord i+1<=p by omega) (by omega)).1
   omega
 have hlen:(R (pos ord i+1)).length=(R (pos ord i)).length+news.length:=by rw[e2,AF,zAa]
 have hle:BeLe β β':=λk x hk=>by
  rw[hout.be k ?_];all_goals grind
 have oldlt:∀k b c,β k=Aa (b,c)->b<w.heap.size:=λk b c hk=>by
  obtain⟨e,_,h2⟩:=k4 k b c hk;exact h2.lt
 have cs:∀k b c,β' k=Aa (b,c)->β k=Aa (b,c)\/((R (pos ord i)).length<=k/\k<(R (pos ord i)).length+news.length):=by
  intro k b c hk;rcases AG k (R (pos ord i)).length with h3|h3
  ·left;rw[<-hout.be k (.inl h3)];exact hk
  rcases AG k ((R (pos ord i)).length+news.length)with h4|h4
  ·exact .inr ⟨h3,h4⟩
  left;rw[<-hout.be k (.inr h4)];exact hk
 have newE:∀k e,(R (pos ord i)).length<=k->news[k-(R (pos ord i)).length]?=Aa e->∃e',(R t)[k]?=Aa e'/\SameB e e':=by
  intro k e hk he;refine(h.seg.store' (show s<=pos ord i+1 by omega) (show pos ord i+1<=t by omega) (Af _)).2 k e ?_;grind [AV,zAa]
 have hstp:Stp β I w β' I' w':=⟨hout.fix,hout.ext.size,λb hb _=>Below.block hout.ext.1 b hb,Below.os hout.ext.1,Below.tape hout.ext.1,Below.output hout.ext.1,hout.ext.2,λk b c hk=>by
   rcases cs k b c hk with h3|⟨h3,h4⟩
   ·exact .inl ⟨k,c,h3⟩
   ·exact .inr (hout.nb k b c h3 h4 hk).1,λb o' hi=>by
   rcases hout.im b o' hi with(hi|⟨k',_,c',_,m1,_⟩)|hi
   ·exact .inl hi
   ·exact .inr (.inr ⟨k',c',m1⟩)
   exact .inr (.inl hi)⟩
 refine⟨by rw[Bs];exact h.size,h.cl.set hr,h.tn,h.seg,λp j hp hj hl=>h.lo p j hp hj (λk=>hl ((hls j).2 (.inr k))),λp j hp hj hl=>?_,h.atT,by rw[zAl];exact h.df,λp j hp hj hl=>h.mo p j hp hj (λk=>hl ((hls j).2 (.inr k))),β',I',putD SL o.dst d,zFi (RelT.mono hout.fix β β' hle _ _ k0) hd o.dst,by rw[zGq,k1],λx hx hx2=>?_,λp j oj x a1 a2 a3 a4 a5 a6=>?_,λk b c hk=>?_,λk k' b c c' hk hk'=>?_,λk b c j e hk he hj=>?_,hout.imb k7,⟨k8.1.trans hstp,k8.2.trans hle.kp⟩,λk x hk=>?_,λp j hp hj hl k c1 c2=>?_⟩
 ·rcases(hls j).1 hl with rfl|hl
  ·have:=zBl F.nodup hj
   omega
  exact h.hi p j hp hj hl
 ·grind [pos,zC2,zBl]
 ·rcases(hls j).1 a4 with rfl|a4
  ·rw[ho]at a5;cases a5;have hp:=zBl F.nodup a3;subst hp;rw[e1,a6];simp only[putD];have hl2:(S (pos ord j)).length=SL.length:=by rw[k1];exact(h.seg.slot' (Af _) h1 (by omega)).1
   grind
  have hne:o.dst≠Aa x:=λe=>F.dst j i oj o x a5 ho (λe=>hnl (e▸a4)) a6 e;grind [zC2]
 ·rcases cs k b c hk with h3|⟨h3,h4⟩
  ·obtain⟨e,m1,m2⟩:=k4 k b c h3;exact⟨e,m1,OwnRel.mono m2 (Below.block hout.ext.1 b (oldlt k b c h3)) hout.fix hle⟩
  obtain⟨_,e,m1,m2,_⟩:=hout.nb k b c h3 h4 hk;grind [OwnRel.same]
 ·rcases cs k b c hk with h3|⟨h3,h4⟩<;>rcases cs k' b c' hk' with h5|⟨h5,h6⟩
  ·exact k5 k k' b c c' h3 h5
  ·have:=oldlt _ _ _ h3
   have:=(hout.nb k' b c' h5 h6 hk').1
   omega
  ·have:=oldlt _ _ _ h5
   have:=(hout.nb k b c h3 h4 hk).1
   omega
  exact hout.inj k k' b c c' h3 h4 h5 h6 hk hk'
 ·rcases cs k b c hk with h3|⟨h3,h4⟩
  ·have hlt:=oldlt _ _ _ h3;rcases hout.im b j hj with(hi|⟨k',hk',c',e',m1,m2,m3⟩)|hi
   ·exact k6 k b c j e h3 he hi
   ·have:=k5 k' k b c' c m1 h3
    subst this;obtain⟨e1',n1,n2⟩:=(h.seg.store' (show s<=pos ord i+1 by omega) (show pos ord i+1<=t by omega) (Af _)).2 k' {e' with fz:=Ab} (by
     rw[e2,AQ (by rw[zAa];exact(Ak.1 m2).1),zBa,m2];simp[hk'])
    rw[he]at n1;cases n1;exact⟨n2.2.2.2.2.2 rfl,by rw[n2.1,n2.2.2.2.2.1];exact m3⟩
   omega
  obtain⟨_,e',m1,_,m3⟩:=hout.nb k b c h3 h4 hk;obtain⟨e'',n1,n2⟩:=newE k e' h3 m1;rw[he]at n1;cases n1;exact⟨n2.2.2.2.2.2 (m3 j hj).1,by rw[n2.1,n2.2.2.2.2.1];exact(m3 j hj).2⟩
 ·obtain⟨b,c⟩:=x;rcases cs k b c hk with h3|⟨h3,h4⟩;all_goals grind
 have hl':¬Ls listed j:=λk=>hl ((hls j).2 (.inr k));have g1:=h.grow' hp hj hl' (show p<=p+1 by omega) (show p+1<=s by omega) (Af _);have g2:=(h.seg.store' (Af _) h1 (by omega)).1;rw[hout.be k (.inl (by omega))];exact k10 p j hp hj hl' k c1 c2
theorem zWu(F:RegF T ops ord W Lt)(htr:∀(p:Nat) i o,ord[p]?=Aa i->ops[i]?=Aa o->zBt P T ops o (S p) (R p) (Eqs (S (p+1)) (R (p+1))))(hall:∀q,q<ord.length->∃i o,ord[q]?=Aa i/\ops[i]?=Aa o){p i n x:Nat}{o:Oper}{b:Bk}{d:D}{q:Prop}{fz:List Nat}(hp:p<s)(hs:s<=ord.length)(hi:ord[p]?=Aa i)(ho:ops[i]?=Aa o)(hE:isE T o.op=Ad)(hl:zY T o.op=Ad)
  (hd:o.dst=Aa x)(he:aeff P T o.op o.type (evD (S s)) ((R s).take n)= .new q b d fz)(hx:(S s)[x]?=Aa d)(hn:n<(R s).length):(R p).length=n/\(R (p+1)).length=n+1:=by
 obtain⟨k1,k2⟩:=zPa he hl hE;have hlen:((R s).take n).length=n:=by rw[AX];omega
 rw[hlen]at k1;have later:∀m,p+1+m<=s->(S (p+1+m))[x]?=(S (p+1))[x]?\/(S (p+1+m))[x]?=Aa .unk\/∃cs n,(S (p+1+m))[x]?=Aa (.row cs n):=by
  intro m;induction m with
  |zero=>intro _;exact .inl rfl
  | succ m ih=>
   intro hm;obtain⟨j,oj,j1,j2⟩:=hall (p+1+m) (by omega);have hne:oj.dst≠Aa x:=λe=>by
    have e1:=zBl F.nodup hi;have e2:=zBl F.nodup j1;exact F.dst i j o oj x ho j2 (λe=>by rw[e]at e1;omega) hd e
   grind [zZm]
 have hx1:(S (p+1))[x]?=Aa d:=by
  have:=later (s-(p+1)) (by omega)
  grind
 rcases zQi hE (htr p i o hi ho)with⟨_,d',fz',news,n1,n2,n3⟩|⟨_,n2,n3⟩
 ·have hd':d'=d:=by
   rw[n2,hd]at hx1;simp only[putD]at hx1;grind
  cases n1<;>grind [zPa,AF,zAa]
 exfalso;rw[n2,hd]at hx1;simp only[putD]at hx1;grind
theorem call_kind{o:Op}{ty:TypeId}{ρ:Operand->D}{st:List Bk}{f:FuncId}{xs:List D}{ks:List Nat}(h:aeff P T o ty ρ st= .call f xs ks)(hl:zY T o=Ad)(hE:isE T o=Ad):zDh o=true:=by
 cases o<;>simp only[zY,AJ]at hl<;>simp only[isE,AJ,reduceCtorEq]at hE<;>simp only[aeff,reduceCtorEq]at h;case alloc=>split at h<;>cases h
 case box=>split at h<;>cases h
 case buildSlice=>rcases zE6 h with h|⟨_,_,_,_,h⟩<;>cases h
 case makeSlice=>rcases zEx h with h|⟨_,_,_,_,h⟩<;>cases h
 case makeMap=>split at h<;>cases h
 case lookup=>rcases zFl h with h|⟨_,_,h⟩<;>cases h
 case convert=>
  split at h
  ·rcases zGe h with h|⟨_,_,h⟩<;>cases h
  simp only[AU]at hl;rename_i hne;exact absurd hl hne
 case load=>
  split at h
  ·rcases zDs h with h|⟨_,_,h⟩<;>cases h
  ·split at h
   ·split at h
    ·cases h
    rcases zDs h with h|⟨_,_,h⟩<;>cases h
   cases h
  cases h
 case call c=>
  obtain⟨callee,args,ts⟩:=c;split at h
  ·split at h
   ·split at h
    ·rcases zHh h with h|⟨_,_,h⟩<;>cases h
    unfold aLen at h;split at h<;>first|cases h|(split at h<;>cases h)
   cases h
  ·split at h<;>cases h
  ·split at h<;>cases h
  ·rename_i hc;subst hc;simp at hE
  ·split at h
   ·rcases zC0 h with h|⟨_,_,_,_,h⟩<;>cases h
   cases h
  ·split at h
   ·rcases zB6 h with h|⟨_,_,_,_,h⟩<;>cases h
   cases h
  ·cases h
  ·rename_i hc;subst hc;rfl
  rename_i hc;subst hc;rfl
theorem zTa{o:Oper}(hg:o.guard=Ac)(sl:List D):gv ops o sl=Aa true:=by simp[gv,hg]
theorem zJh{o:Oper}{n:Nat}{sl:List D}{st:List Bk}(hg:o.guard=Ac)(h:zHj P T ops o n sl st):∃d news,NF P T o (evD sl) (st.take n) d [] news/\(∀x,o.dst=Aa x->sl[x]?=Aa d)/\
  (news=[]\/∃b e x q fz,news=[b]/\st[n]?=Aa e/\SameB b e/\zY T o.op=Ad/\o.dst=Aa x/\sl[x]?=Aa d/\aeff P T o.op o.type (evD sl) (st.take n)= .new q b d fz):=by
 unfold zHj at h;rw[zTa hg]at h;simp only at h;split at h
 ·rename_i p d he;exact⟨d,[], .lit he h.1 h.2.1,h.2.2, .inl rfl⟩
 ·rename_i p d he;exact⟨d,[], .get he h.1 h.2.1,h.2.2, .inl rfl⟩
 ·rename_i p b d fz he;obtain⟨h1,h2,rfl,⟨x,hx,hd⟩,e,h3,h4⟩:=h;exact⟨d,[b], .new he h1 h2,λy hy=>by rw[hx]at hy;cases hy;exact hd, .inr ⟨b,e,x,p,[],rfl,h3,h4,h1,hx,hd,he⟩⟩
 exact h.elim
theorem zYc(F:RegF T ops ord W Lt)(htr:∀(p:Nat) i o,ord[p]?=Aa i->ops[i]?=Aa o->zBt P T ops o (S p) (R p) (Eqs (S (p+1)) (R (p+1))))(hall:∀q,q<ord.length->∃i o,ord[q]?=Aa i/\ops[i]?=Aa o){p i n:Nat}{o:Oper}(hp:p<s)(hs:s<=ord.length)(hi:ord[p]?=Aa i)(ho:ops[i]?=Aa o)(hE:isE T o.op=Ad)(hc:zDh o.op=Ad)(hg:o.guard=Ac)
  (hl:zHj P T ops o n (S s) (R s)):(R (p+1)).length=(R p).length\/((R p).length=n/\(R (p+1)).length=n+1):=by
 obtain⟨d,news,h1,h2,h3⟩:=zJh hg hl;rcases zQi hE (htr p i o hi ho)with⟨_,d',fz',news',n1,n2,n3⟩|⟨g1,_⟩
 ·cases n1 with
  |lit _ _ _=>left;rw[n3];simp[zAa]
  |get _ _ _=>left;rw[n3];simp[zAa]
  |call a1 a2 _=>rw[call_kind a1 a2 hE]at hc;cases hc
  | new a1 a2 _=>
   obtain⟨_,k2⟩:=zPa a1 a2 hE;right;rcases h3 with rfl|⟨b,e,x,q,fz,rfl,m1,m2,m3,m4,m5,m6⟩
   ·exfalso;cases h1<;>grind
   exact zWu F htr hall hp hs hi ho hE m3 m4 m6 m5 (Ak.1 m1).1
 grind
theorem Inv.nextL(F:RegF T ops ord W Lt)(h:Inv P T ops ord W S R β0 I0 w0 df s t listed a w){i:Nat}{o:Oper}(hr:i∈Region.ready .any ops listed)(ho:ops[i]?=Aa o)(h1:pos ord i<s){β:Be}{I:Im}{SL:List D}
  (k0:RelT I w β SL a.tmps.toList)(k1:SL.length=(S s).length)(k2:∀x,(∀p i o,s<=p->p<t->ord[p]?=Aa i->Ls listed i->ops[i]?=Aa o->o.dst≠Aa x)->(∀p i o,p<s->ord[p]?=Aa i->¬Ls listed i->ops[i]?=Aa o->o.dst≠Aa x)->SL[x]?=(S s)[x]?)
  (k3:∀p i o x,s<=p->p<t->ord[p]?=Aa i->Ls listed i->ops[i]?=Aa o->o.dst=Aa x->SL[x]?=(S (p+1))[x]?)
  (k4:∀k b c,β k=Aa (b,c)->∃e,(R t)[k]?=Aa e/\OwnRel I w β b c e)(k5:Inj β)(k6:FZ β I (R t))(k7:ImB I w)(k8:Stp β0 I0 w0 β I w/\Kp T β0 β)
  (k9:∀k x,β k=Aa x->k<(R s).length\/∃p i,s<=p/\p<t/\ord[p]?=Aa i/\Ls listed i/\(R p).length<=k/\k<(R (p+1)).length)
  (k10:∀p i,p<s->ord[p]?=Aa i->¬Ls listed i->∀k,(R p).length<=k->k<(R (p+1)).length->β k=Ac)
  {n:Nat}{d:D}{news:List Bk}{β':Be}{I':Im}{w':World}{v:Value}(e1:∀x,o.dst=Aa x->(S s)[x]?=Aa d)
  (hnews:news=[]\/∃b e,news=[b]/\(R s)[n]?=Aa e/\SameB b e/\(R (pos ord i)).length=n/\(R (pos ord i+1)).length=n+1)
  (hout:OutN β I w ((R s).take n) news [] β' I' w')(hd:Rel I' w' β' d v):Inv P T ops ord W S R β0 I0 w0 df s t (listed.setIfInBounds i Ab) (a.put o.dst v) w':=by
 have hisz:i<listed.size:=by rw[h.size];exact(Ao.1 ho).1
 have hls:∀j,Ls (listed.setIfInBounds i Ab) j↔j=i\/Ls listed j:=λj=>ls_set hisz;have hpi:ord[pos ord i]?=Aa i:=(op_at F ho).1;have hnl:¬Ls listed i:=((zB8 h.size).1 hr).1;have cs0:∀k,β' k=β k\/(news≠[]/\k=n/\n<(R s).length):=by
  intro k;rcases hnews with rfl|⟨b,e,rfl,m1,m2,m3,m4⟩
  ·left;refine hout.be k ?_;grind
  have hn:n<(R s).length:=(Ak.1 m1).1;have hlen:((R s).take n).length=n:=by rw[AX];omega
  by_cases hk:k=n
  ·grind
  left;refine hout.be k ?_;rw[hlen];simp;omega
 have hfr:news≠[]->β n=none:=λhne=>by
  grind
 have hle:BeLe β β':=λk x hk=>by
  grind
 have oldlt:∀k b c,β k=Aa (b,c)->b<w.heap.size:=λk b c hk=>by
  obtain⟨e,_,h2⟩:=k4 k b c hk;exact h2.lt
 have hnew:∀b c,β' n=Aa (b,c)->news≠[]->w.heap.size<=b/\∃e',(R t)[n]?=Aa e'/\OwnRel I' w' β' b c e'/\∀j,I' b j->e'.fz=Ab/\(e'.kd.isMap=Ab\/j<e'.cells.length):=by
  intro b c hb hne;rcases hnews with rfl|⟨b0,e,rfl,m1,m2,m3,m4⟩
  ·exact absurd rfl hne
  have hn:n<(R s).length:=(Ak.1 m1).1;have hlen:((R s).take n).length=n:=by rw[AX];omega
  obtain⟨q1,e2,q2,q3,q4⟩:=hout.nb n b c (by omega) (by rw[hlen];simp) hb;rw[hlen,Nat.sub_self]at q2;simp only[A7,Ah.injEq]at q2;subst q2;obtain⟨e',r1,r2⟩:=(h.seg.store' (Af _) h.seg.le (Af _)).2 n e m1;have hs2:=m2.trans r2;refine⟨q1,e',r1,(OwnRel.same hs2).1 q3,λj hj=>?_⟩
  have:=q4 j hj
  exact⟨hs2.2.2.2.2.2 this.1,by rw[hs2.1,hs2.2.2.2.2.1];exact this.2⟩
 have cs:∀k b c,β' k=Aa (b,c)->β k=Aa (b,c)\/(news≠[]/\k=n/\n<(R s).length):=λk b c hk=>(cs0 k).imp (λe=>by rw[<-e];exact hk) id;have hI:∀b o',I' b o'->I b o'\/w.heap.size<=b:=λb o' hi=>by
  rcases hout.im b o' hi with(hi|⟨k',hk',_⟩)|hi;all_goals grind
 have hstp:Stp β I w β' I' w':=⟨hout.fix,hout.ext.size,λb hb _=>Below.block hout.ext.1 b hb,Below.os hout.ext.1,Below.tape hout.ext.1,Below.output hout.ext.1,hout.ext.2,λk b c hk=>by
   rcases cs k b c hk with h3|⟨h3,rfl,_⟩
   ·exact .inl ⟨k,c,h3⟩
   exact .inr (hnew b c hk h3).1,λb o' hi=>(hI b o' hi).imp id .inl⟩
 have hlo:∀j,¬Ls (listed.setIfInBounds i Ab) j->¬Ls listed j:=λj hl k=>hl ((hls j).2 (.inr k));refine⟨by rw[Bs];exact h.size,h.cl.set hr,h.tn,h.seg,λp j hp hj hl=>h.lo p j hp hj (hlo j hl),λp j hp hj hl=>?_,h.atT,by rw[zAl];exact h.df,λp j hp hj hl=>h.mo p j hp hj (hlo j hl),β',I',putD SL o.dst d,zFi (RelT.mono hout.fix β β' hle _ _ k0) hd o.dst,by rw[zGq,k1],λx hx hx2=>?_,λp j oj x a1 a2 a3 a4 a5 a6=>?_,λk b c hk=>?_,λk k' b c c' hk hk'=>?_,λk b c j e hk he hj=>?_,hout.imb k7,⟨k8.1.trans hstp,k8.2.trans hle.kp⟩,λk x hk=>?_,λp j hp hj hl k c1 c2=>?_⟩
 ·rcases(hls j).1 hl with rfl|hl
  ·have:=zBl F.nodup hj
   have:=h.seg.le
   omega
  exact h.hi p j hp hj hl
 ·by_cases hdx:o.dst=Aa x
  ·have h2:=e1 x hdx;rw[h2,hdx];simp only[putD];grind
  grind [zC2]
 ·have hji:j≠i:=λe=>by
   have:=zBl F.nodup a3
   rw[e]at this;omega
  have a4':Ls listed j:=((hls j).1 a4).resolve_left hji;have hne:o.dst≠Aa x:=λe=>F.dst j i oj o x a5 ho hji a6 e;grind [zC2]
 ·rcases cs k b c hk with h3|⟨h3,rfl,_⟩
  ·obtain⟨e,m1,m2⟩:=k4 k b c h3;exact⟨e,m1,OwnRel.mono m2 (Below.block hout.ext.1 b (oldlt k b c h3)) hout.fix hle⟩
  grind
 ·rcases cs k b c hk with h3|⟨h3,e3,_⟩<;>rcases cs k' b c' hk' with h5|⟨h5,e5,_⟩
  ·exact k5 k k' b c c' h3 h5
  all_goals grind
 ·rcases cs k b c hk with h3|⟨h3,rfl,_⟩
  ·have hlt:=oldlt _ _ _ h3;rcases hI b j hj with hi|hi
   ·exact k6 k b c j e h3 he hi
   omega
  grind
 ·obtain⟨b,c⟩:=x;rcases cs k b c hk with h3|⟨h3,rfl,h4⟩
  ·rcases k9 k _ h3 with h5|⟨p,j,a1,a2,a3,a4,a5⟩;all_goals grind
  exact .inl h4
 have hl':=hlo j hl;rcases cs0 k with h3|⟨h3,rfl,h4⟩
 ·grind
 exfalso;rcases hnews with rfl|⟨b,e,rfl,m1,m2,m3,m4⟩
 ·exact h3 rfl
 rcases AZ p (pos ord i)with h5|h5|h5
 ·have:=h.grow' hp hj hl' (show p<=p+1 by omega) (show p+1<=pos ord i by omega) (by omega)
  omega
 ·grind
 have:=h.grow' h1 hpi hnl (show pos ord i<=pos ord i+1 by omega) (show pos ord i+1<=p by omega) (by omega)
 omega
def zMn(ops:Array Oper)(ord:List Nat)(listed:Array Bool)(t:Nat):List Nat:=(ord.take t).filterMap λi=>if listed.getD i Ad then Ac else(ops[i]?).bind (·.dst)
theorem zD7{x:Nat}:x∈zMn ops ord listed t↔∃p i o,p<t/\ord[p]?=Aa i/\¬Ls listed i/\ops[i]?=Aa o/\o.dst=Aa x:=by
 unfold zMn;rw[List.mem_filterMap];constructor
 ·rintro⟨i,hi,hx⟩;obtain⟨p,hp⟩:=A6.1 hi;rw[Ar]at hp;split at hp
  ·rename_i hlt;split at hx
   ·cases hx
   rename_i hl;obtain⟨o,ho,hd⟩:=Bp.1 hx;exact⟨p,i,o,hlt,hp,hl,ho,hd⟩
  cases hp
 rintro⟨p,i,o,h1,h2,h3,h4,h5⟩;refine⟨i,A6.2 ⟨p,by rw[Ar,if_pos h1];exact h2⟩,?_⟩;grind [Ls]
theorem Inv.full(F:RegF T ops ord W Lt)(hg0:Gl I0 w0)(h:Inv P T ops ord W S R β0 I0 w0 df s t listed a w):∃β I,Sim β I w (unkS (zMn ops ord listed t) (S t)) (R t) a.tmps.toList/\(Stp β0 I0 w0 β I w/\Kp T β0 β)/\
  ∀p i,p<t->ord[p]?=Aa i->¬Ls listed i->∀k,(R p).length<=k->k<(R (p+1)).length->β k=none:=by
 obtain⟨β,I,SL,k0,k1,k2,k3,k4,k5,k6,k7,k8,k9,k10⟩:=h.ex;have hlS:SL.length=(S t).length:=by rw[k1];exact((h.seg.slot' (Af _) h.seg.le (Af _)).1).symm
 have hSL:∀x,x∉zMn ops ord listed t->SL[x]?=(S t)[x]?:=by
  intro x hx;by_cases hw:∃p j oj,s<=p/\p<t/\ord[p]?=Aa j/\Ls listed j/\ops[j]?=Aa oj/\oj.dst=Aa x
  ·obtain⟨p,j,oj,a1,a2,a3,a4,a5,a6⟩:=hw;rw[k3 p j oj x a1 a2 a3 a4 a5 a6];have hpj:pos ord j=p:=zBl F.nodup a3;refine((h.seg.slot' (by omega) (show p+1<=t by omega) (Af _)).2 x λr k ok b1 b2 b3 b4 b5=>?_).symm;have hpk:pos ord k=r:=zBl F.nodup b3;have hkj:k≠j:=λe=>by rw[e,hpj]at hpk;omega
   exact F.dst k j ok oj x b4 a5 hkj b5 a6
  rw[k2 x (λp j oj a1 a2 a3 a4 a5 a6=>hw ⟨p,j,oj,a1,a2,a3,a4,a5,a6⟩) (λp j oj a1 a2 a3 a4 a5=>hx (zD7.2 ⟨p,j,oj,by have:=h.seg.le;omega,a2,a3,a4,a5⟩))];refine((h.seg.slot' (Af _) h.seg.le (Af _)).2 x λr k ok b1 b2 b3 b4 b5=>?_).symm;grind [Ls,zD7]
 refine⟨β,I,⟨unkS_rel hlS k0 hSL,k4,k5,k6,λk x hk=>?_,k7,hg0.mono k8.1.fix⟩,k8,λp i hp hi hn k c1 c2=>?_⟩
 ·grind
 rcases AG p s with h1|h1
 ·grind
 cases hb:β k with
 |none=>rfl
 | some x=>
  exfalso;rcases k9 k x hb with h3|⟨p',j,a1,a2,a3,a4,a5,a6⟩
  ·have:=(h.seg.store' (Af _) h1 (by omega)).1
   omega
  rcases AZ p' p with h3|h3|h3
  ·have:=(h.seg.store' (show s<=p'+1 by omega) (show p'+1<=p by omega) (by omega)).1
   omega
  ·grind
  have:=(h.seg.store' (show s<=p+1 by omega) (show p+1<=p' by omega) (by omega)).1
  omega
theorem zWc(htr:∀(p:Nat) i o,ord[p]?=Aa i->ops[i]?=Aa o->zBt P T ops o (S p) (R p) (Eqs (S (p+1)) (R (p+1))))(hop:∀p,p<ops.size->∃i o,ord[p]?=Aa i/\ops[i]?=Aa o):
  ∀n s,s+n=ops.size->∃t,t<=ops.size/\Seg P T ops ord S R s t/\(t=ops.size\/∃i o,ord[t]?=Aa i/\ops[i]?=Aa o/\isE T o.op=Ab):=by
 intro n;induction n with
 |zero=>intro s hs;exact⟨s,by omega,⟨Af _,λp h1 h2=>by omega⟩, .inl (by omega)⟩
 | succ n ih=>
  intro s hs;obtain⟨i,o,h1,h2⟩:=hop s (by omega);cases hE:isE T o.op with
  |true=>exact⟨s,by omega,⟨Af _,λp h1 h2=>by omega⟩, .inr ⟨i,o,h1,h2,hE⟩⟩
  |false=>
   obtain⟨t,t1,t2,t3⟩:=ih (s+1) (by omega);refine⟨t,t1,⟨by have:=t2.le;omega,λp p1 p2=>?_⟩,t3⟩;rcases Nat.eq_or_lt_of_le p1 with rfl|p1
   ·grind
   exact t2.step p p1 p2
end
end
end Go.Proofs.YthmfohpkimflhaaGreatDoor
