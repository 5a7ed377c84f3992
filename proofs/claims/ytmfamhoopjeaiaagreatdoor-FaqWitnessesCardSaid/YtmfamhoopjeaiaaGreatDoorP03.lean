/- Texts of this claim, joined. -/
import Derived.Test.YtmfamhoopjeaiaaGreatDoorP02
import Derived.Shelf.SlSortCmp.Whole1
import Derived.Shelf.Small.Bits
import Derived.Shelf.Small.Strs
import Derived.Shelf.Small.Wraps
import Derived.Shelf.Strconv.Itoa0
import Derived.Shelf.Strconv.Itoa1
import Derived.Shelf.LaysM
import Derived.Shelf.Strconv.Itoa2
import Derived.Shelf.Sort.Plain
import Derived.Shelf.Strconv.AppendUint10
import Derived.Shelf.Strconv.AppendInt10
import Derived.Shelf.Strconv.AppendIntPublic10
import Derived.Shelf.Slices.Turned
import Derived.Shelf.Slices.Equal
import Derived.Ground.Names2Prog
import Derived.Shelf.Slices.Clone
import Derived.Shelf.Slices.CompactI
import Derived.Shelf.Slices.SearchI
import Derived.Shelf.Slices.Cells
import Derived.Shelf.Slices.In.SortNone
import Derived.Shelf.Slices.Empties2
import Derived.Ground.SlsfProg
import Derived.Lib.RowBridge
import Derived.Lib.QuietBelow
import Derived.Sort.AssemblyPlain
import Derived.BigCall
import Derived.Lib.ItoaLen
import Derived.Lib.Walk
import Derived.WalkKit
import Derived.Lib.Strings
import Derived.Lib.ItoaWalk
import Derived.Lib.LaidTab
import Derived.Lib.Hide
set_option linter.unusedVariables false
set_option linter.unusedSimpArgs false
namespace Go.Proofs.YtmfamhoopjeaiaaGreatDoor
open _root_.List renaming length->Aa,map->Af,drop->Ak,range->Aw,length_append->AE,replicate->AF,headD->AG,take->AH,range'->AJ,getD->AK,getElem?_eq_getElem->AL,getD_eq_getElem?_getD->AN,length_set->AO,length_cons->AU,length_map->AV,mem_range->AX,drop_zero->AY,pairwise_cons->A0,ext_getElem?->A2,foldl_cons->A6,all_eq_true->A9,mem_cons->Bc,mem_singleton->Bd,getElem?_eq_none->Bf,take_of_length_le->Bg,mem_append->Bi,mem_map->Bn,eq_nil_of_length_eq_zero->Bo,cons_append->Br,range'_succ->Bs,take_length->Bt,length_replicate->By,mem_cons_of_mem->BA,getElem_of_mem->BB,take_left'->BD,map_cons->BE,getElem?_map->BG,pairwise_iff_getElem->BI,append_assoc->BL,getElem?_append_right->BM,getElem?_set_self->BQ,getElem?_set_ne->BR,getElem?_set->BT,nil_append->BV,foldl_append->BX,length_take->BZ,ext_getElem->B5,take_succ_eq_append_getElem->B8,range'_append_1->B_,Pairwise->Cb,length_filter_le->Cc,filter_eq_nil_iff->Cd,getElem?_append_left->Ce,replicate_succ->Cf,getElem?_take->Cg,take_append_drop->Ch,getElem_mem->Ci,mem_of_mem_take->Cj,append_cancel_left_eq->Cp
open _root_.Bool renaming true->Ab,false->Ac,or_eq_true->A4,false_ne_true->Bm,or_false->Bp,and_eq_true->Bq,not_eq_true'->BC,true_and->B7,eq_iff_iff->B9
open _root_.Inhabited renaming default->Ad
open D renaming own->Ae,osl->Ag,val->Al,agg->An,clo->AB,row->AC
open _root_.Option renaming some->Ah,none->AA,some->BH,map_some->BU
open Bk renaming mk->Ai,cells->AD,free_arr->AP
open Kd renaming plain->Aj,sh->AM
open _root_.Go.Proofs.Tryz renaming prog->Am,func67->B6
open _root_.Int renaming toNat->Ao,toNat_natCast->AS,tdiv->Ba
open Value renaming string->Ap,int->AQ,bool->A3,slice->B3
open Va renaming kind->Aq,int->Ar,str->As
open _root_.Nat renaming le_refl->Au,le_trans->Av,lt_or_ge->Ax,le->Ay,le_succ->AI,zero_add->AT,mul_one->AZ,mul_le_mul_right->A1,succ_mul->A5,add_sub_cancel->A8,zero_le->Bh,mod_lt->Bl,lt_of_le_of_lt->Bv,min_eq_left->Bw,shiftRight_eq_div_pow->Bx,eq_zero_or_pos->BJ,sub_self->BN,le_of_lt->BO,lt_of_lt_of_le->BP,succ_le_succ->BW,div_add_mod->Ca,testBit_eq_decide_div_mod_eq->Cn,add_mul_mod_self_left->Co
open LeL renaming refl->Az,of_eq->BF
open IntKind renaming i64->AR,u32->Bj
open _root_.BitVec renaming ofInt->AW
open Lib renaming bitLen->A7,compareBytes->Bb,decDigits->BK
open BeLe renaming refl->A_
open _root_.Prod renaming snd->Bu
open Weak renaming slots->BS
open World renaming cell?->BY
open _root_.Array renaming replicate->Ck,size_replicate->Cl
abbrev af_:Prop:=0<2/\1<2/\Ac=Ac/\Ab=Ab/\2=2/\2<=2
abbrev ag_:Prop:=((1=1/\1<=2/\1=1/\2<=2/\True)/\Ab=Ab)/\Ac=Ac/\Ab=Ab/\2=2/\2<=2
abbrev ah_:Prop:=(True/\Ab=Ab)/\Ac=Ac/\Ab=Ab/\2=2/\2<=2
abbrev ai_:Prop:=True/\0<1/\1=1/\0<=16777216/\0<=9223372036854775807
abbrev aj_:Prop:=True/\0<2/\True
variable{k off:Nat}
section
open Go.RowKit
attribute [local irreducible] seqW awp zY zZ zR Weak updS zAe retL Pure Acts rP setP setQ cP nP fr
set_option maxRecDepth 4096
theorem only_va(i:Int)(v:Va)(I:Im)(w:World)(β:Be)(vs:List Value)(h:RelT I w β [.own k off,iD i, .agg (vaC v)] vs):RelT I w (only β k) [.own 0 off,iD i, .agg (vaC v)] vs:=by
 simp_all [only,RelT,Rel,RelL,vaC]
theorem zMq:∀k:Nat,2<=k->Ti.keep k=false:=λk hk=>decide_eq_false (by omega)
section
variable(t:Tri)(ab:List D)(hab:ab.length = 64)(hno:Nor ab)
abbrev vlB(v:Va):Bk:=⟨vaC v,107,0,Ac,Ac, .plain⟩
abbrev lsV(t:Tri)(k:Nat)(v:Va)(i:Nat):Bool:=decide (vcmp ((zDe t k).getD i Ad) v<0)
include hab hno in
theorem seek_k(k q e s:Nat)(v:Va)(hk:k<t.length)(hq:q<e)(he:e<=(zDe t k).length)(he2:e<=1000000)(h1:k<=1000000)(hs:s<=100000000000000000)(hm:Mon (lsV t k v) q e):Acts Am 159 [.own 0 0, .agg (vaC v)] [itB t (k+1:Nat) (q:Nat) (e:Nat) ab (s:Nat)] [] (bD (decide ((sek (lsV t k v) q e s).1<e))) [itB t (k+1:Nat) ((sek (lsV t k v) q e s).1:Nat) (e:Nat) ab ((sek (lsV t k v) q e s).2:Nat),vlB v]:=by
 have hL:∀i:Nat,i<e->∀s':Nat,s'<=2000000000000000000->Acts Am 176 [.own 0 0,iD (i:Nat), .agg (vaC v)] [itB t (k+1:Nat) (q:Nat) (e:Nat) ab (s':Nat),vlB v] [] (bD (lsV t k v i)) [itB t (k+1:Nat) (q:Nat) (e:Nat) ab (s'+1:Nat),vlB v]:=λi hi s' h=>by
  have h2:=(less_a t (q:Nat) (e:Nat) ab (s':Nat) hab hno k i v hk (by omega) h1 (by omega)).atG (args:=[.own 0 0,iD (i:Nat), .agg (vaC v)]) (st:=[itB t (k+1:Nat) (q:Nat) (e:Nat) ab (s':Nat),vlB v]) 0 rfl (zBe hno) (zBe hno) (only_va i v);rw[zQl]at h2;exact h2
 have hov:=λ(p:Nat)(s':Nat)=>(zF7 t (k+1:Nat) (p:Nat) (e:Nat) ab (s':Nat)).atG (args:=[.own 0 0]) (st:=[itB t (k+1:Nat) (p:Nat) (e:Nat) ab (s':Nat),vlB v]) 0 rfl (zBe hno) (zBe hno) (zC2 []);have ho:∀p:Nat,onV (k+1:Nat) (p:Nat) (e:Nat)=decide (p<e):=λp=>by
  simp_all [onV,B7]
 simp only[ho]at hov;have hov0:=hov q s;rw[decide_eq_true hq]at hov0;have hl0:=hL q hq s (by omega);generalize hLL:lsV t k v=L at*;unfold sek;cases hb:L q with
 |false=>
  rw[hb]at hl0;rw[if_neg (by decide)];simp only;rw[decide_eq_true hq];refine zS zLi mixed Tryz.func159 rfl (zK5 rfl)<|vAu<|zA<|vA<|vrT 1<|vnt [itB t (↑(k+1):Int) (q:Int) (e:Int) ab (s:Int),Ai [iD<|Aq v,iD<|Ar v,Al<|Ap<|bs<|As v] 107 0 Ac Ac Aj]<|zAi [] [] [Ae 0 0] [Ae 0 0] (Az _) (by exact hov0) ?_;refine v0s<|veT<|vf<|vK<|zA<|zA<|vd [0,1,2,3,4,5,6,7,8]<|vr 7 (True/\True/\0<Aa (Ak 2<|itC t (↑(k+1):Int) (q:Int) (e:Int) ab (s:Int))/\3<=3)<|vnt [Ai (itC t (↑(k+1):Int) (q:Int) (e:Int) ab (s:Int)) 249 0 Ac Ac Aj,Ai [iD<|Aq v,iD<|Ar v,Al<|Ap<|bs<|As v] 107 0 Ac Ac Aj]<|zAi [] [] [Ae 0 0,iD q,An [iD<|Aq v,iD<|Ar v,Al<|Ap<|bs<|As v]] [Ae 0 0,iD q,An [iD<|Aq v,iD<|Ar v,Al<|Ap<|bs<|As v]] (Az _) (by exact hl0) ?_;refine v0s<|veT<|vt<|vAe<|zG<|zE<|zT (True) [Al<|A3 Ab] (.inr rfl) ?_;exact⟨by kernel_rfl,by kernel_rfl⟩
 | true=>
  rw[hb]at hl0;rw[if_pos rfl];simp only;generalize hG:gal L e e q 1 (s+1)=G;generalize hB:bis L e G.1 (min (G.1+G.2.1) e) G.2.2=B;refine zS zLi mixed Tryz.func159 rfl (zK5 rfl)<|vAu<|zA<|vA<|vrT 1<|vnt [itB t (↑(k+1):Int) (q:Int) (e:Int) ab (s:Int),Ai [iD<|Aq v,iD<|Ar v,Al<|Ap<|bs<|As v] 107 0 Ac Ac Aj]<|zAi [] [] [Ae 0 0] [Ae 0 0] (Az _) (by exact hov0) ?_;refine v0s<|veT<|vf<|vK<|zA<|zA<|vd [0,1,2,3,4,5,6,7,8]<|vr 7 (True/\True/\0<Aa (Ak 2<|itC t (↑(k+1):Int) (q:Int) (e:Int) ab (s:Int))/\3<=3)<|vnt [Ai (itC t (↑(k+1):Int) (q:Int) (e:Int) ab (s:Int)) 249 0 Ac Ac Aj,Ai [iD<|Aq v,iD<|Ar v,Al<|Ap<|bs<|As v] 107 0 Ac Ac Aj]<|zAi [] [] [Ae 0 0,iD q,An [iD<|Aq v,iD<|Ar v,Al<|Ap<|bs<|As v]] [Ae 0 0,iD q,An [iD<|Aq v,iD<|Ar v,Al<|Ap<|bs<|As v]] (Az _) (by exact hl0) ?_;refine v0s<|veT<|vf<|vK<|vA<|ve (True/\True/\0<Aa (Ak 2<|itC t (↑(k+1):Int) (q:Int) (e:Int) ab (↑(s+1):Int)))<|vB<|zA0 (λ(low:Nat)(step:Nat)(s':Nat)=>fr 80 [(0,Ae 0 0),(3,Ae 1 0),(4,bD Ac),(5,iD low),(6,iD step)]) (λ(low step s':Nat)=>[itB t (k+1:Nat) (q:Nat) (e:Nat) ab (s':Nat),vlB v]) (λ(low step s':Nat)=>e-low) (λ(low step s':Nat)=>q<=low/\low<e/\1<=step/\step<=low+1/\s'+(e-low)<=s+1+(e-q)/\∃n,e-low<=n/\gal L e n low step s'=G) q 1 (s+1) ?_ ?_ ?_
  ·grind
  ·refine vk 2 ?_;exact zMq
  rintro low step s' ⟨c1,c2,c3,c4,c5,n,c6,c7⟩;obtain⟨n,rfl⟩:∃m,n=m+1:=⟨n-1,by omega⟩;unfold gal at c7;have e1:(low:Int)+(step:Nat)=((low+step:Nat):Int):=by omega
  have e2:(step:Int)*2=((step*2:Nat):Int):=by omega
  rcases Ax (low+step) e with d1|d1
  ·rw [if_pos d1]at c7;have hl1:=hL (low+step) d1 s' (by omega);cases hb1:L (low+step)with
   |true=>
    rw[hb1]at hl1;rw[hb1,if_pos rfl]at c7;refine zA<|vAs<|vw 15 [] [(9,Ab)] (i6 ((low:Int)+(step:Int))/\True/\True/\0<Aa (Ak 3<|AD<|itB t (↑(k+1):Int) (q:Int) (e:Int) ab (s':Int))/\decide ((↑(low+step):Int)<(e:Int))=Ab/\i6 ((low:Int)+(step:Int))/\3<=3)<|vnt [itB t (↑(k+1):Int) (q:Int) (e:Int) ab (s':Int),vlB v]<|zAi [] [] [Ae 0 0,iD ↑(low+step),An [iD<|Aq v,iD<|Ar v,Al<|Ap<|bs<|As v]] [Ae 0 0,iD ↑(low+step),An [iD<|Aq v,iD<|Ar v,Al<|Ap<|bs<|As v]] (Az _) (by exact hl1) ?_;refine v0s<|veT<|vt<|vK<|zF<|vA<|ve (i6 ((low:Int)+(step:Int)))<|zB rfl<|vr 3 (i6 ((step:Int)*(2:Int)))<|vnil<|zD<|zC<|⟨low+step,step*2,s'+1,⟨by omega,d1,by omega,by omega,by omega,n,by omega,c7⟩,by omega,?_⟩;refine vk 2 ?_;exact zMq
   | false=>
    rw[hb1]at hl1;rw[hb1,if_neg (by decide)]at c7;subst c7;simp only at hB;have emin:(if((e:Nat):Int)<((low+step:Nat):Int)then((e:Nat):Int)else((low+step:Nat):Int))=((min (low+step) e:Nat):Int):=by
     omega
    refine zA<|vAs<|vw 15 [] [(9,Ab)] (i6 ((low:Int)+(step:Int))/\True/\True/\0<Aa (Ak 3<|AD<|itB t (↑(k+1):Int) (q:Int) (e:Int) ab (s':Int))/\decide ((↑(low+step):Int)<(e:Int))=Ab/\i6 ((low:Int)+(step:Int))/\3<=3)<|vnt [itB t (↑(k+1):Int) (q:Int) (e:Int) ab (s':Int),vlB v]<|zAi [] [] [Ae 0 0,iD ↑(low+step),An [iD<|Aq v,iD<|Ar v,Al<|Ap<|bs<|As v]] [Ae 0 0,iD ↑(low+step),An [iD<|Aq v,iD<|Ar v,Al<|Ap<|bs<|As v]] (Az _) (by exact hl1) ?_;refine v0s<|veT<|vf<|vZ2<|vA<|vr 9 (i6 ((low:Int)+(step:Int))/\True/\True/\0<Aa (Ak 3<|itC t (↑(k+1):Int) (q:Int) (e:Int) ab (↑(s'+1):Int)))<|vs 56 (iD (if(e:Int)<↑(low+step)then(e:Int)else(↑(low+step):Int))) (iD (↑(min (low+step) e):Int))<|veT<|vB<|zA0 (λ(low:Nat)(high:Nat)(s':Nat)=>fr 80 [(0,Ae 0 0),(3,Ae 1 0),(4,bD Ac),(5,iD low),(7,iD high)]) (λ(low high s':Nat)=>[itB t (k+1:Nat) (q:Nat) (e:Nat) ab (s':Nat),vlB v]) (λ(low high s':Nat)=>high-low) (λ(low high s':Nat)=>q<=low/\low<high/\high<=e/\s'+(high-low)<=s+2+(e-q)/\∃n,high-low<=n+1/\bis L n low high s'=B) low (min (low+step) e) (s'+1) ?_ ?_ ?_
    ·grind
    ·refine vk 2 ?_;exact zMq
    clear hB c1 c2 c3 c4 c5 c6 emin e1 e2;rintro low high s' ⟨c1,c2,c3,c4,n,c5,c6⟩;have e3:(high:Int)-(low:Nat)=((high-low:Nat):Int):=by omega
    rcases Ax 1 (high-low)with d2|d2
    ·obtain⟨n,rfl⟩:∃m,n=m+1:=⟨n-1,by omega⟩;unfold bis at c6;rw[if_pos d2]at c6;have hlt:(high-low)/2<high-low:=Nat.div_lt_self (by omega) (by omega);have hgt:1<=(high-low)/2:=by omega
     have hl1:=hL (low+(high-low)/2) (by omega) s' (by omega);have e4:((high-low:Nat):Int).tdiv 2=(((high-low)/2:Nat):Int):=(Int.ofNat_tdiv _ _).symm;have e5:(low:Int)+(((high-low)/2:Nat):Int)=((low+(high-low)/2:Nat):Int):=by omega
     have hin:inK .i64 (((high-low:Nat):Int).tdiv 2):=by
      rw[e4];exact⟨by show(-9223372036854775808:Int)<=_;omega,by show _<=(9223372036854775807:Int);omega⟩
     generalize (high-low)/2=dd at*;cases hb2:L (low+dd)with
     |true=>
      rw[hb2]at hl1;rw[hb2,if_pos rfl]at c6;refine zA<|vAs<|vr 3 (i6 ((high:Int)-(low:Int)))<|vs 59 (iD ((high:Int)-(low:Int))) (iD ↑(high-low))<|veT<|vT ((↑(high-low):Int)>(1:Int))<|vK<|zF<|vA<|vr 4 (i6 ((high:Int)-(low:Int)))<|vs 64 (iD ((high:Int)-(low:Int))) (iD ↑(high-low))<|vr 1 ((2:Int)≠(0:Int)/\inK AR (Ba (↑(high-low):Int) (2:Int)))<|vs 65 (iD<|Ba (↑(high-low):Int) (2:Int)) (iD dd)<|ve (i6 ((low:Int)+(dd:Int)))<|vA<|vr 3 (3<=3)<|vnt [itB t (↑(k+1):Int) (q:Int) (e:Int) ab (s':Int),vlB v]<|zAi [] [] [Ae 0 0,iD ↑(low+dd),An [iD<|Aq v,iD<|Ar v,Al<|Ap<|bs<|As v]] [Ae 0 0,iD ↑(low+dd),An [iD<|Aq v,iD<|Ar v,Al<|Ap<|bs<|As v]] (Az _) (by exact hl1) ?_;refine v0s<|veT<|vt<|zB rfl<|vrT 2<|vnil<|zD<|zC<|⟨low+dd,high,s'+1,⟨by omega,by omega,by omega,by omega,n,by omega,c6⟩,by omega,?_⟩;refine vk 2 ?_;exact zMq
     |false=>
      rw[hb2]at hl1;rw[hb2,if_neg (by decide)]at c6;refine zA<|vAs<|vr 3 (i6 ((high:Int)-(low:Int)))<|vs 59 (iD ((high:Int)-(low:Int))) (iD ↑(high-low))<|veT<|vT ((↑(high-low):Int)>(1:Int))<|vK<|zF<|vA<|vr 4 (i6 ((high:Int)-(low:Int)))<|vs 64 (iD ((high:Int)-(low:Int))) (iD ↑(high-low))<|vr 1 ((2:Int)≠(0:Int)/\inK AR (Ba (↑(high-low):Int) (2:Int)))<|vs 65 (iD<|Ba (↑(high-low):Int) (2:Int)) (iD dd)<|ve (i6 ((low:Int)+(dd:Int)))<|vA<|vr 3 (3<=3)<|vnt [itB t (↑(k+1):Int) (q:Int) (e:Int) ab (s':Int),vlB v]<|zAi [] [] [Ae 0 0,iD ↑(low+dd),An [iD<|Aq v,iD<|Ar v,Al<|Ap<|bs<|As v]] [Ae 0 0,iD ↑(low+dd),An [iD<|Aq v,iD<|Ar v,Al<|Ap<|bs<|As v]] (Az _) (by exact hl1) ?_;refine v0s<|veT<|vf<|zB rfl<|vrT 2<|vnil<|zD<|zC<|⟨low,low+dd,s'+1,⟨by omega,by omega,by omega,by omega,n,by omega,c6⟩,by omega,?_⟩;refine vk 2 ?_;exact zMq
    have c7:bis L n low high s'=(high,s'):=by
     cases n<;>grind [bis]
    rw[c7]at c6;subst c6;have hv:=hov high s';refine zA<|vAs<|vr 3 (i6 ((high:Int)-(low:Int)))<|vs 59 (iD ((high:Int)-(low:Int))) (iD ↑(high-low))<|veT<|vF ((↑(high-low):Int)>(1:Int))<|vZ2<|vA<|ve (True/\True/\Bk.fz (itB t (↑(k+1):Int) (q:Int) (e:Int) ab (s':Int))=Ac/\Ab=Ab/\1=1/\3<=Aa (AD<|itB t (↑(k+1):Int) (q:Int) (e:Int) ab (s':Int)))<|vA<|vrT 1<|vnt [Ai (triC t::iD ↑(k+1)::iD ↑high::iD ↑e::(ab++[iD s'])) (249:TypeId) 0 Ac Ac Aj,vlB v]<|zAi [] [] [Ae 0 0] [Ae 0 0] (Az _) (by exact hv) ?_;refine v0s<|veT<|zG<|zT (True) [Al<|A3<|decide (high<e)] (.inr rfl) ?_;exact⟨by kernel_rfl,by kernel_rfl⟩
  rw[if_neg (by omega)]at c7;subst c7;simp only at hB;have emin:(if((e:Nat):Int)<((low+step:Nat):Int)then((e:Nat):Int)else((low+step:Nat):Int))=((min (low+step) e:Nat):Int):=by
   omega
  refine zA<|vAs<|vew [] [(9,Ac)] (i6 ((low:Int)+(step:Int))/\True/\True/\0<Aa (Ak 3<|AD<|itB t (↑(k+1):Int) (q:Int) (e:Int) ab (s':Int))/\decide ((↑(low+step):Int)<(e:Int))=Ac)<|vf<|vZ2<|vA<|vr 9 (i6 ((low:Int)+(step:Int))/\True/\True/\0<Aa (Ak 3<|AD<|itB t (↑(k+1):Int) (q:Int) (e:Int) ab (s':Int)))<|vs 56 (iD (if(e:Int)<↑(low+step)then(e:Int)else(↑(low+step):Int))) (iD (↑(min (low+step) e):Int))<|veT<|vB<|zA0 (λ(low:Nat)(high:Nat)(s':Nat)=>fr 80 [(0,Ae 0 0),(3,Ae 1 0),(4,bD Ac),(5,iD low),(7,iD high)]) (λ(low high s':Nat)=>[itB t (k+1:Nat) (q:Nat) (e:Nat) ab (s':Nat),vlB v]) (λ(low high s':Nat)=>high-low) (λ(low high s':Nat)=>q<=low/\low<high/\high<=e/\s'+(high-low)<=s+2+(e-q)/\∃n,high-low<=n+1/\bis L n low high s'=B) low (min (low+step) e) s' ?_ ?_ ?_
  ·grind
  ·refine vk 2 ?_;exact zMq
  clear hB c1 c2 c3 c4 c5 c6 emin e1 e2;rintro low high s' ⟨c1,c2,c3,c4,n,c5,c6⟩;have e3:(high:Int)-(low:Nat)=((high-low:Nat):Int):=by omega
  rcases Ax 1 (high-low)with d2|d2
  ·obtain⟨n,rfl⟩:∃m,n=m+1:=⟨n-1,by omega⟩;unfold bis at c6;rw[if_pos d2]at c6;have hlt:(high-low)/2<high-low:=Nat.div_lt_self (by omega) (by omega);have hgt:1<=(high-low)/2:=by omega
   have hl1:=hL (low+(high-low)/2) (by omega) s' (by omega);have e4:((high-low:Nat):Int).tdiv 2=(((high-low)/2:Nat):Int):=(Int.ofNat_tdiv _ _).symm;have e5:(low:Int)+(((high-low)/2:Nat):Int)=((low+(high-low)/2:Nat):Int):=by omega
   have hin:inK .i64 (((high-low:Nat):Int).tdiv 2):=by
    rw[e4];exact⟨by show(-9223372036854775808:Int)<=_;omega,by show _<=(9223372036854775807:Int);omega⟩
   generalize (high-low)/2=dd at*;cases hb2:L (low+dd)with
   |true=>
    rw[hb2]at hl1;rw[hb2,if_pos rfl]at c6;refine zA<|vAs<|vr 3 (i6 ((high:Int)-(low:Int)))<|vs 59 (iD ((high:Int)-(low:Int))) (iD ↑(high-low))<|veT<|vT ((↑(high-low):Int)>(1:Int))<|vK<|zF<|vA<|vr 4 (i6 ((high:Int)-(low:Int)))<|vs 64 (iD ((high:Int)-(low:Int))) (iD ↑(high-low))<|vr 1 ((2:Int)≠(0:Int)/\inK AR (Ba (↑(high-low):Int) (2:Int)))<|vs 65 (iD<|Ba (↑(high-low):Int) (2:Int)) (iD dd)<|ve (i6 ((low:Int)+(dd:Int)))<|vA<|vr 3 (3<=3)<|vnt [itB t (↑(k+1):Int) (q:Int) (e:Int) ab (s':Int),vlB v]<|zAi [] [] [Ae 0 0,iD ↑(low+dd),An [iD<|Aq v,iD<|Ar v,Al<|Ap<|bs<|As v]] [Ae 0 0,iD ↑(low+dd),An [iD<|Aq v,iD<|Ar v,Al<|Ap<|bs<|As v]] (Az _) (by exact hl1) ?_;refine v0s<|veT<|vt<|zB rfl<|vrT 2<|vnil<|zD<|zC<|⟨low+dd,high,s'+1,⟨by omega,by omega,by omega,by omega,n,by omega,c6⟩,by omega,?_⟩;refine vk 2 ?_;exact zMq
   |false=>
    rw[hb2]at hl1;rw[hb2,if_neg (by decide)]at c6;refine zA<|vAs<|vr 3 (i6 ((high:Int)-(low:Int)))<|vs 59 (iD ((high:Int)-(low:Int))) (iD ↑(high-low))<|veT<|vT ((↑(high-low):Int)>(1:Int))<|vK<|zF<|vA<|vr 4 (i6 ((high:Int)-(low:Int)))<|vs 64 (iD ((high:Int)-(low:Int))) (iD ↑(high-low))<|vr 1 ((2:Int)≠(0:Int)/\inK AR (Ba (↑(high-low):Int) (2:Int)))<|vs 65 (iD<|Ba (↑(high-low):Int) (2:Int)) (iD dd)<|ve (i6 ((low:Int)+(dd:Int)))<|vA<|vr 3 (3<=3)<|vnt [itB t (↑(k+1):Int) (q:Int) (e:Int) ab (s':Int),vlB v]<|zAi [] [] [Ae 0 0,iD ↑(low+dd),An [iD<|Aq v,iD<|Ar v,Al<|Ap<|bs<|As v]] [Ae 0 0,iD ↑(low+dd),An [iD<|Aq v,iD<|Ar v,Al<|Ap<|bs<|As v]] (Az _) (by exact hl1) ?_;refine v0s<|veT<|vf<|zB rfl<|vrT 2<|vnil<|zD<|zC<|⟨low,low+dd,s'+1,⟨by omega,by omega,by omega,by omega,n,by omega,c6⟩,by omega,?_⟩;refine vk 2 ?_;exact zMq
  have c7:bis L n low high s'=(high,s'):=by
   cases n<;>grind [bis]
  rw[c7]at c6;subst c6;have hv:=hov high s';refine zA<|vAs<|vr 3 (i6 ((high:Int)-(low:Int)))<|vs 59 (iD ((high:Int)-(low:Int))) (iD ↑(high-low))<|veT<|vF ((↑(high-low):Int)>(1:Int))<|vZ2<|vA<|ve (True/\True/\Bk.fz (itB t (↑(k+1):Int) (q:Int) (e:Int) ab (s':Int))=Ac/\Ab=Ab/\1=1/\3<=Aa (AD<|itB t (↑(k+1):Int) (q:Int) (e:Int) ab (s':Int)))<|vA<|vrT 1<|vnt [Ai (triC t::iD ↑(k+1)::iD ↑high::iD ↑e::(ab++[iD s'])) (249:TypeId) 0 Ac Ac Aj,vlB v]<|zAi [] [] [Ae 0 0] [Ae 0 0] (Az _) (by exact hv) ?_;refine v0s<|veT<|zG<|zT (True) [Al<|A3<|decide (high<e)] (.inr rfl) ?_;exact⟨by kernel_rfl,by kernel_rfl⟩
include hab hno in
theorem seek_a(k q e s:Nat)(v:Va)(hk:k<t.length)(hq:q<e)(he:e<=(zDe t k).length)(he2:e<=1000000)(h1:k<=1000000)(hs:s<=100000000000000000)(hm:Mon (lsV t k v) q e):Acts Am 159 [.own 0 0, .agg (vaC v)] [itB t (k+1:Nat) (q:Nat) (e:Nat) ab (s:Nat)] [] (bD (decide ((sek (lsV t k v) q e s).1<e))) [itB t (k+1:Nat) ((sek (lsV t k v) q e s).1:Nat) (e:Nat) ab ((sek (lsV t k v) q e s).2:Nat)]:=
 (seek_k t ab hab hno k q e s v hk hq he he2 h1 hs hm).cut 1 (by simp) (zPy hno _ _ (by simp only[refs]))
end
abbrev fr0:List (Int×Int):=AF 32 (0,0)
theorem iter_a(t:Tri):Acts Am 78 [.agg [triC t]] [] [] (.own 1 0) [⟨[triC t],185,0,Ac,Ac, .plain⟩,itB t 0 0 0 (frC fr0) 0]:=by
 refine zS zFz mixed Tryz.func78 rfl (by intro k hk;cases hk)<|vAu<|vA<|ve (1<=1/\(1=1/\1<=69/\True)/\Ab=Ab)<|zG<|zT (True) [Ae 1 0] (.inr rfl) ?_;exact⟨by kernel_rfl,by kernel_rfl⟩
theorem zXn(x:Rw)(n:Nat)(h:n<x.length):x.drop n=x.getD n Ad::x.drop (n+1):=by
 simp_all
theorem shared_c(x y:Rw)(h:x.length<=y.length)(hb:y.length<=1000000):Pure Am 127 [rowV x,rowV y] [] (iD (shr x y:Nat)):=by
 have hxl:x.length<=1000000:=by omega
 refine zJ zFz mixed Tryz.func127 rfl<|vAu<|vAe<|vB<|zN (λ(n:Nat)=>fr 25 [(0,rowV x),(1,rowV y),(4,iD 0),(5,iD (n:Int))]) (λ(n:Nat)=>[]) (λ(n:Nat)=>x.length-n) (λ(n:Nat)=>n<=x.length/\shr (x.drop n) (y.drop n)+n=shr x y) 0 ?_ ?_ ?_
 ·grind
 ·refine vk 0
 rintro n ⟨c1,c2⟩;rcases Ax n x.length with d|d
 ·have hx:=zCu x n d;have hnx:=zF1 x;have hlx:3<=((zM x).drop (n*3)).length:=zEd _ _ (h:=d);have hy:=zCu y n (by omega);have hny:=zF1 y;have hly:3<=((zM y).drop (n*3)).length:=zEd _ _;have hc:=zH2 (x.getD n Ad) (y.getD n Ad);rw[zXn x n d,zXn y n (by omega),shr]at c2;rcases Int.decEq (vcmp (x.getD n Ad) (y.getD n Ad)) 0 with e|e
  ·rw[if_neg e]at c2;generalize x.getD n Ad=u at*;generalize y.getD n Ad=v at*;obtain rfl:n=shr x y:=by omega
   refine zA<|zA<|vd [0,1,2,3,4,5,6,7,9,10,11,8,12,13,14,15]<|v0s<|vw 12 [] [(4,Ab)] (decide ((↑(shr x y):Int)<(Aa x:Int))=Ab/\ix ↑(shr x y) ↑(Aa x) (zM x≠[])/\ix ↑(shr x y) ↑(Aa y) (zM y≠[])/\3<=Aa (Ak (shr x y*3)<|zM x))<|vs 14 (An<|AH 3<|Ak (shr x y*3)<|zM x) (An<|vaC u)<|vr 1 (3<=Aa (Ak (shr x y*3)<|zM y))<|vs 18 (An<|AH 3<|Ak (shr x y*3)<|zM y) (An<|vaC v)<|vc hc<|veT<|vEf (vcmp u v) ((0:Int))<|vZ2<|vAe<|zG<|vret (True)<|.inr rfl
  rw[if_pos e]at c2;rw[e]at hc;generalize x.getD n Ad=u at*;generalize y.getD n Ad=v at*;refine zA<|zA<|vd [0,1,2,3,4,5,6,7,9,10,11,8,12,13,14,15]<|v0s<|vw 12 [] [(4,Ab)] (decide ((n:Int)<↑(Aa x))=Ab/\ix ↑n ↑(Aa x) (zM x≠[])/\ix ↑n ↑(Aa y) (zM y≠[])/\3<=Aa (Ak (n*3)<|zM x))<|vs 14 (An<|AH 3<|Ak (n*3)<|zM x) (An<|vaC u)<|vr 1 (3<=Aa (Ak (n*3)<|zM y))<|vs 18 (An<|AH 3<|Ak (n*3)<|zM y) (An<|vaC v)<|vc hc<|veT<|vt<|vK<|zF<|zB rfl<|vr 3 (i6 (↑n+1))<|vnil<|zD<|zC<|⟨n+1,⟨by omega,by omega⟩,by omega,?_⟩;refine vk 0
 obtain rfl:n=x.length:=by omega
 have c3:shr x y=x.length:=by
  grind [List.drop_length,shr]
 refine zA<|zA<|vd [0,1,2,3,4,5,6,7,9,10,11,8,12,13,14,15]<|v0s<|vew [] [(4,Ac)] (decide ((Aa x:Int)<(Aa x:Int))=Ac)<|vf<|vZ2<|vAe<|zG<|vre (True) (Al<|AQ AR (Aa x:Int)) (.inr rfl) ?_;rw[c3]
end
variable{A:List Nat}{m n a b v:Nat}
section
open Go.RowKit
abbrev u32D(n:Nat):D:= .val (.int .u32 (n:Nat))
abbrev nsD(l:List Nat):List D:=l.map λc=>iD (c:Nat)
def msk(A:List Nat):Nat:=A.foldl (λm v=>m|||2^v) 0
theorem mskF_bit(A:List Nat):∀(m v:Nat),(A.foldl (λm v=>m|||2^v) m).testBit v=(m.testBit v||decide (v∈A)):=by
 induction A<;>grind
theorem zC7(A:List Nat)(v:Nat):(msk A).testBit v=decide (v∈A):=by rw[msk,mskF_bit];simp
theorem bits_lt(h:∀v,n<=v->m.testBit v=Ac):m<2^n:=Nat.lt_pow_two_of_testBit m h
theorem zCc(h:∀v∈A,v<32):msk A<4294967296:=bits_lt (n:=32) λv hv=>by
 rw[zC7];simp;intro hm;have:=h v hm;omega
theorem msk_succ(A:List Nat)(i:Nat)(h:i<A.length):msk (A.take (i+1))=msk (A.take i)|||2^A.getD i 0:=by
 grind [B8,msk,AL]
theorem msk_un{B:List Nat}(hA:∀v∈A,v<32)(hB:∀v∈B,v<32):msk A|||msk B=msk (un A B):=by
 apply Nat.eq_of_testBit_eq;intro v;rw[Nat.testBit_or,zC7,zC7,zC7,B9];simp only[A4,decide_eq_true_eq,zEv];grind
theorem zCk(h:n<4294967296):Bj.wrap (n:Int)=(n:Int):=zDx (k:= .u32) (by simp only[inK];omega)
theorem bv_nat(h:n<4294967296):(AW 32 (n:Int)).toNat=n:=by
 grind
theorem zQw(ha:a<4294967296)(hb:b<4294967296):a|||b<4294967296:=Nat.or_lt_two_pow (n:=32) ha hb
theorem zX7(ha:a<4294967296):a&&&b<4294967296:=Bv Nat.and_le_left ha
theorem u32_and(ha:a<4294967296)(hb:b<4294967296):Bj.wrap ((AW 32 (a:Int)&&&AW 32 (b:Int)).toNat:Int)=((a&&&b:Nat):Int):=by
 grind [bv_nat,zCk,zX7]
theorem u32_shl(h:v<32):Bj.wrap (1*2^(min (v:Int).toNat 32))=((2^v:Nat):Int):=by
 have h2:2^v<4294967296:=Nat.pow_lt_pow_right (n:=32) (by omega) h;rw[AS,Bw (by omega),Int.one_mul,show((2:Int)^v)=((2^v:Nat):Int) by simp,zCk h2]
theorem u32_shr(m:Nat)(h:v<32):Int.fdiv (m:Int) (2^(min (v:Int).toNat 32))=((m>>>v:Nat):Int):=by
 grind [AS,Bw,Bx,Int.ofNat_fdiv]
theorem u32_bit(hm:m<4294967296)(v:Nat):(Bj.wrap ((AW 32 ((m>>>v:Nat):Int)&&&AW 32 1).toNat:Int)==1)=m.testBit v:=by
 have h1:m>>>v<4294967296:=Bv (by rw[Bx];exact Nat.div_le_self _ _) hm
 have:=u32_and (b:=1) h1 (by omega)
 rw[show((1:Nat):Int)=1 from rfl]at this;rw[this,Cn,Nat.and_one_is_mod,Bx,B9];grind
theorem zX0(ha:a<4294967296)(hb:b<4294967296):(AW 32 (a:Int)|||AW 32 (b:Int)).toNat=a|||b:=by
 grind
theorem bv_and(ha:a<4294967296)(hb:b<4294967296):(AW 32 (a:Int)&&&AW 32 (b:Int)).toNat=a&&&b:=by
 grind
theorem zHf(h:v<32):Bj.wrap (1*2^(min v 32))=((2^v:Nat):Int):=u32_shl h
theorem zHe(m:Nat)(h:v<32):Int.fdiv (m:Int) (2^(min v 32))=((m>>>v:Nat):Int):=u32_shr m h
theorem zS9(h:v<32):2^v<4294967296:=Nat.pow_lt_pow_right (n:=32) (by omega) h
theorem bit_eq(hm:m<4294967296)(v:Nat):((AW 32 ((m>>>v:Nat):Int)&&&1#32).toNat:Int)=if m.testBit v then 1 else 0:=by
 have h1:m>>>v<4294967296:=Bv (by rw[Bx];exact Nat.div_le_self _ _) hm;rw[BitVec.toNat_and,bv_nat h1,Cn,show(1#32).toNat=1 from rfl,Nat.and_one_is_mod,Bx];grind
theorem bit_b(hm:m<4294967296)(v:Nat):((((AW 32 ((m>>>v:Nat):Int)&&&AW 32 1).toNat:Nat):Int)==1)=m.testBit v:=by
 grind [bit_eq]
theorem bit_w(hm:m<4294967296)(v:Nat):(Bj.wrap (((AW 32 ((m>>>v:Nat):Int)&&&AW 32 1).toNat:Nat):Int)==1)=m.testBit v:=u32_bit hm v
end
theorem cb_tr:∀(a b d:List UInt8),Bb a b=-1->Bb b d=-1->Bb a d=-1
 |[],[],_,h,_=>by simp[Bb]at h
 |[],_::_,[],_,k=>by simp[Bb]at k
 |[],_::_,_::_,_,_=>rfl
 |_::_,[],_,h,_=>by simp[Bb]at h
 |_::_,_::_,[],_,k=>by simp[Bb]at k
 |x::a,y::b,z::d,h,k=>by
  have ih:=cb_tr a b d;simp only[Bb]at h k⊢;grind
theorem cmpD_neg{a b:Int}:cmpD a b<0↔a<b:=by grind [zD8]
theorem zNr(a b d:Va)(h:vcmp a b<0)(k:vcmp b d<0):vcmp a d<0:=by
 obtain⟨ak,ai,as'⟩:=a;obtain⟨bk,bi,bs'⟩:=b;obtain⟨dk,di,ds⟩:=d;have t:=cb_tr as' bs' ds;have v1:=(zJ3 as' bs').1;have v2:=(zJ3 bs' ds).1;have v3:=(zJ3 as' ds).1;simp only[vcmp]at h k⊢;split at h<;>split at k<;>split<;>try simp only[cmpD_neg]at*
 all_goals (try split at h)<;>(try split at k)<;>(try split)<;>(try simp only[cmpD_neg]at*)<;>first|omega|(have:=t (by omega) (by omega);omega)|skip
theorem zYy:∀(a b d:List Va),rcmp a b<0->rcmp b d<0->rcmp a d<0
 |[],[],_,h,_=>by simp[rcmp]at h
 |[],_::_,[],_,k=>by simp[rcmp]at k
 |[],_::_,_::_,_,_=>by simp[rcmp]
 |_::_,[],_,h,_=>by simp[rcmp]at h
 |_::_,_::_,[],_,k=>by simp[rcmp]at k
 |x::a,y::b,z::d,h,k=>by
  have ih:=zYy a b d;simp only[rcmp]at h k⊢;grind [vcmp,zBy,zNr]
theorem rcw:Cw rcmp:=⟨λa b=>(zD1 a b).2.1,λa b=>(zD1 a b).2.2,zYy⟩
def Sib:Tri->Nat->Nat->Prop
 |[],_,_=>True
 |l::t,a,b=>a<b/\b<=l.1.length/\b<l.2.length/\(∀i j,a<=i->i<j->j<b->vcmp (l.1.getD i Ad) (l.1.getD j Ad)<0)/\∀i,a<=i->i<b->Sib t (l.2.getD i 0) (l.2.getD (i+1) 0)
theorem sib_goes:∀(t t':Tri)(a b:Nat),InvT t->Goes t t'->b<szT t->Sib (finT t) a b->Sib (finT t') a b
 |[],t',a,b,hi,hg,hb,hs=>by rw[show t'=[]from hg];trivial
 |l::t,[],a,b,hi,hg,hb,hs=>absurd hg (by simp[Goes])
 | l::t,l'::t',a,b,⟨h1,h2,h3⟩,⟨⟨p,hp⟩,⟨r,hr⟩,hg⟩,hb,⟨s1,s2,s3,s4,s5⟩=>by
  simp only[szT]at hb;simp only[finT]at s1 s2 s3 s4 s5⊢;refine⟨s1,by simp only[hp,AE];omega,by simp only[hr,AE,AU,List.length_nil]at s3⊢;omega,λi j i1 i2 i3=>?_,λi i1 i2=>?_⟩
  ·grind
  have:=s5 i i1 i2
  rw[zBr l.2 _ _ i,zBr l.2 _ _ (i+1)]at this;rw[hr,BL,zBr l.2 _ _ i,zBr l.2 _ _ (i+1)];cases t with
  |nil=>rw[show t'=[]from hg];trivial
  |cons m t=>exact sib_goes _ _ _ _ h3 hg (h2 (by simp) _ (by omega)) this
theorem sib_add0:∀(t:Tri)(x:List Va)(a b:Nat),InvT t->x.length=t.length->b<=szT t->Sib (finT t) a b->Sib (finT (adT x 0 t)) a b
 |[],x,a,b,hi,hx,hb,hs=>by cases x<;>trivial
 |l::t,[],a,b,hi,hx,hb,hs=>by simp at hx
 | l ::t,v::x,a,b,⟨h1,h2,h3⟩,hx,hb,⟨s1,s2,s3,s4,s5⟩=>by
  simp only[szT]at hb;simp only[finT]at s1 s2 s3 s4 s5;simp only[adT,finT];refine⟨s1,by simp;omega,by simp;omega,λi j i1 i2 i3=>?_,λi i1 i2=>?_⟩
  ·grind
  have:=s5 i i1 i2
  rw[zBr (l.2++[szT t]) _ _ i (h:=by simp;omega),zBr (l.2++[szT t]) _ _ (i+1) (h:=by simp;omega)];cases t with
  |nil=>cases x with
   |nil=>trivial
   |cons _ _=>simp at hx
  | cons m t=>
   refine sib_add0 _ _ _ _ h3 (by simpa using hx) ?_ this;rcases Ax (i+1) l.1.length with h|h
   ·grind
   rw[show i+1=l.2.length by omega,AN,BM (Au _),BN];exact Au _
theorem zYr:∀(t:Tri)(x:List Va),InvT t->x.length=t.length->Sib (finT (adT x 0 t)) (szT t) (szT t+1)
 |[],x,hi,hx=>by cases x<;>trivial
 |l::t,[],hi,hx=>by simp at hx
 | l::t,v::x,⟨h1,h2,h3⟩,hx=>by
  show Sib (finT ((l.1++[v],l.2++[szT t])::adT x 0 t)) l.1.length (l.1.length+1);simp only[finT];refine⟨by omega,by simp,by simp;omega,λi j i1 i2 i3=>by omega,λi i1 i2=>?_⟩;obtain rfl:i=l.1.length:=by omega
  have e2:(l.2++[szT t]++[szT (adT x 0 t)]).getD l.1.length 0=szT t:=by
   grind
  have e3:(l.2++[szT t]++[szT (adT x 0 t)]).getD (l.1.length+1) 0=szT (adT x 0 t):=by
   grind
  rw[e2,e3];cases t with
  |nil=>cases x with
   |nil=>trivial
   |cons _ _=>simp at hx
  |cons m t=>
   rw[zFf _ _ (by simpa using hx),if_neg (by simp)];exact zYr _ _ h3 (by simpa using hx)
def Nxt:Nat->List Va->Tri->Nat->Prop
 |0,v::x,l::t,a=>a<=l.1.length/\(a<l.1.length->vcmp (l.1.getD (l.1.length-1) Ad) v<0)
 |f+1,v::x,l::t,a=>a<l.1.length/\l.1.getD (l.1.length-1) Ad=v/\Nxt f x t (l.2.getD (l.1.length-1) 0)
 |_,_,_,_=>False
variable{t:Tri}
theorem sib_snoc{l:List Va×List Nat}(h:a<b)(h1:Sib (l::t) a b)(h2:Sib (l::t) b (b+1))(hv:vcmp (l.1.getD (b-1) Ad) (l.1.getD b Ad)<0):Sib (l::t) a (b+1):=by
 obtain⟨s1,s2,s3,s4,s5⟩:=h1;obtain⟨r1,r2,r3,r4,r5⟩:=h2;refine⟨by omega,r2,r3,λi j i1 i2 i3=>?_,λi i1 i2=>?_⟩
 ·rcases Ax j b with hj|hj
  ·exact s4 i j i1 i2 hj
  obtain rfl:j=b:=by omega
  rcases Ax i (j-1)with hi|hi
  ·exact zNr _ _ _ (s4 i (j-1) i1 hi (by omega)) hv
  obtain rfl:i=j-1:=by omega
  exact hv
 grind
theorem sib_add:∀(f:Nat)(x:List Va)(t:Tri)(a:Nat),InvT t->x.length=t.length->Nxt f x t a->(a<szT t->Sib (finT t) a (szT t))->Sib (finT (adT x f t)) a (szT (adT x f t))
 |0,[],t,a,hi,hx,hn,hs=>hn.elim
 |f+1,[],t,a,hi,hx,hn,hs=>hn.elim
 |0,v::x,[],a,hi,hx,hn,hs=>hn.elim
 |f+1,v::x,[],a,hi,hx,hn,hs=>hn.elim
 | 0,v::x,l::t,a,hi,hx,⟨n1,n2⟩,hs=>by
  have hnw:=zYr (l::t) (v::x) hi hx;rw[zFf _ _ hx,if_neg (by simp)];have hz:szT (l::t)=l.1.length:=rfl;rcases Ax a l.1.length with h|h
  ·have h0:=sib_add0 (l::t) (v::x) a _ hi hx (Au _) (hs h);rw[hz]at hnw h0⊢;simp only[adT,finT]at hnw h0⊢;refine sib_snoc h h0 hnw ?_;grind
  grind
 | f+1,v::x,l::t,a,⟨h1,h2,h3⟩,hx,⟨n1,n2,n3⟩,hs=>by
  have hx':x.length=t.length:=by simpa using hx
  have ht:t≠[]:=λe=>by
   subst e;cases x with
   |nil=>cases f<;>exact n3.elim
   |cons _ _=>simp at hx'
  have hz:szT (l::t)=l.1.length:=rfl;have h0:=hs n1;have hlt:=h2 ht (l.1.length-1) (by omega);have g1:∀z,(l.2++[z]).getD (l.1.length-1) 0=l.2.getD (l.1.length-1) 0:=λz=>zBr _ _ _ _;have g2:∀z,(l.2++[z]).getD (l.1.length-1+1) 0=z:=λz=>by
   grind
  have hg:=zK8 f x t hx';rw[zSi _ _ _ hx,hz];rw[hz]at h0;simp only[adT,finT]at h0⊢;obtain⟨s1,s2,s3,s4,s5⟩:=h0;have sl:=s5 (l.1.length-1) (by omega) (by omega);rw[g1,g2]at sl;refine⟨s1,s2,by simp;omega,s4,λi i1 i2=>?_⟩;rcases Ax (i+1) l.1.length with hc|hc
  ·have:=s5 i i1 i2
   rw[zBr _ _ _ i,zBr _ _ _ (i+1)]at this⊢;exact sib_goes t _ _ _ h3 hg (h2 ht _ hc) this
  obtain rfl:i=l.1.length-1:=by omega
  rw[g1,g2];exact sib_add f x t _ h3 hx' n3 λ_=>sl
def Pth:List Va->Tri->Nat->Prop
 |[],[],_=>True
 |v::x,l::t,a=>a<l.1.length/\l.1.getD (l.1.length-1) Ad=v/\Pth x t (l.2.getD (l.1.length-1) 0)
 |_,_,_=>False
theorem nxt_of:∀(x y:List Va)(t:Tri)(a:Nat),x.length=y.length->rcmp x y<0->Pth x t a->Nxt (shr x y) y t a
 |[],[],t,a,hl,hc,hp=>by simp[rcmp]at hc
 |[],_::_,t,a,hl,hc,hp=>by simp at hl
 |_::_,[],t,a,hl,hc,hp=>by simp at hl
 |u::x,v::y,[],a,hl,hc,hp=>hp.elim
 | u::x,v::y,l::t,a,hl,hc,⟨p1,p2,p3⟩=>by
  rw[rcmp]at hc;rw[shr];split at hc
  ·rename_i e;rw[if_pos e];obtain rfl:=(zBy u v).2.1.1 e;exact⟨p1,p2,nxt_of x y t _ (by simpa using hl) hc p3⟩
  rename_i e;rw[if_neg e];exact⟨BO p1,λ_=>p2▸hc⟩
theorem zY0:∀(x:List Va)(t:Tri),InvT t->x.length=t.length->Pth x (adT x 0 t) (szT t)
 |[],[],_,_=>trivial
 |[],_::_,_,h=>by simp at h
 |_::_,[],_,h=>by simp at h
 | v::x,l::t,⟨h1,h2,h3⟩,hx=>by
  refine⟨by simp[szT],?_,?_⟩
  ·grind
  have e:(l.2++[szT t]).getD ((l.1++[v]).length-1) 0=szT t:=by
   grind
  rw[e];exact zY0 x t h3 (by simpa using hx)
theorem pth_add:∀(f:Nat)(x:List Va)(t:Tri)(a:Nat),InvT t->x.length=t.length->Nxt f x t a->Pth x (adT x f t) a
 |0,[],t,a,hi,hx,hn=>hn.elim
 |f+1,[],t,a,hi,hx,hn=>hn.elim
 |0,v::x,[],a,hi,hx,hn=>hn.elim
 |f+1,v::x,[],a,hi,hx,hn=>hn.elim
 |0,v::x,l::t,a,hi,hx,⟨n1,n2⟩=>by
  obtain⟨p1,p2,p3⟩:=zY0 (v::x) (l::t) hi hx;exact⟨Bv n1 p1,p2,p3⟩
 |f+1,v::x,l::t,a,⟨h1,h2,h3⟩,hx,⟨n1,n2,n3⟩=>⟨n1,n2,pth_add f x t _ h3 (by simpa using hx) n3⟩
def Rsc(L:List (List Va)):Prop:=L.Pairwise λx y=>rcmp x y<0
theorem sib_bld(n:Nat):∀(L:List (List Va))(last:List Va)(t:Tri),InvT t->t.length=n->last.length=n->(∀x∈L,x.length=n)->Rsc (last::L)->Pth last t 0->Sib (finT t) 0 (szT t)->Sib (finT (bldT last L t)) 0 (szT (bldT last L t))
 |[],last,t,hi,ht,hl,hL,hd,hp,hs=>hs
 |x::L,last,t,hi,ht,hl,hL,hd,hp,hs=>by
  have hxn:=hL x (by simp);have hxt:x.length=t.length:=by omega
  have hd1:=(A0.1 hd).1 x (by simp);have hn:=nxt_of last x t 0 (by omega) hd1 hp;exact sib_bld n L x _ (zL2 _ _ _ hi hxt) (by rw[zG8];exact ht) hxn (λy hy=>hL y (by simp[hy])) (A0.1 hd).2 (pth_add _ _ _ _ hi hxt hn) (sib_add _ _ _ _ hi hxt hn λ_=>hs)
theorem trie_sib(n:Nat)(hn:0<n)(L:List (List Va))(hL:∀x∈L,x.length=n)(hd:Rsc L)(hne:L≠[]):Sib (zCn n L) 0 (szT (zCn n L)):=by
 cases L with
 |nil=>exact absurd rfl hne
 | cons x L=>
  have hx:x.length=(AF n (([],[]):List Va×List Nat)).length:=by rw[hL x (by simp),By]
  have hz:szT (adT x 0 (AF n (([],[]):List Va×List Nat)))=1:=by
   grind [zFf,zSh,Aa]
  have h1:=zYr _ x (zL1 n) hx;have h2:=zY0 x _ (zL1 n) hx;simp_all [zSh,zCn,bldT,zSp,szT_fin,sib_bld,zL2,zL1,zG8]
theorem dst_of{L:List (List Va)}(hn:0<n)(hL:∀x∈L,x.length=n)(hd:Rsc L):Dst [] L:=by
 have key:∀(L:List (List Va))(last:List Va),Rsc (last::L)->Dst last L:=by
  intro L;induction L with
  |nil=>intro last _;trivial
  |cons x L ih=>
   intro last h;refine⟨λe=>?_,ih x (A0.1 h).2⟩
   have:=(A0.1 h).1 x (by simp)
   grind [zD1]
 cases L with
 |nil=>trivial
 |cons x L=>
  refine⟨λe=>?_,key L x hd⟩;simp_all
structure It where
 t:Tri
 l:Nat
 p:Nat
 e:Nat
 fr:List (Int×Int)
 s:Nat
 deriving Inhabited
abbrev vls(t:Tri)(k:Nat):List Va:=(t.getD k Ad).1
abbrev fst'(t:Tri)(k:Nat):List Nat:=(t.getD k Ad).2
def onI(it:It):Bool:=decide (0<it.l)&&decide (it.p<it.e)
def opI(it:It):It:=match it.l with
 |0=>{it with l:=1,p:=0,e:=szT it.t,fr:=it.fr.set 0 ((it.p:Nat),(it.e:Nat))}
 |k+1=>{it with l:=k+2,p:=(fst' it.t k).getD it.p 0,e:=(fst' it.t k).getD (it.p+1) 0,fr:=it.fr.set (k+1) ((it.p:Nat),(it.e:Nat))}
def upI(it:It):It:={it with l:=it.l-1,p:=(it.fr.getD (it.l-1) (0,0)).1.toNat,e:=(it.fr.getD (it.l-1) (0,0)).2.toNat}
def keyI(it:It):Va:=(vls it.t (it.l-1)).getD it.p Ad
def lsI(v:Va)(it:It)(i:Nat):Bool:=decide (vcmp ((vls it.t (it.l-1)).getD i Ad) v<0)
def skI(v:Va)(it:It):It:={it with p:=(sek (lsI v it) it.p it.e it.s).1,s:=(sek (lsI v it) it.p it.e it.s).2}
def nxI(it:It):It:={it with p:=it.p+1}
def zCs(ix:List Nat)(its:List It):List It:=ix.foldl (λits i=>its.set i (opI (its.getD i Ad))) its
def zJl(ix:List Nat)(its:List It):List It:=ix.foldl (λits i=>its.set i (upI (its.getD i Ad))) its
def mtL(ix:List Nat):Nat->List It->Va->Nat->Nat->Nat->List It×Nat×Bool
 |0,its,key,same,k,s=>(its,s,Ab)
 | f+1,its,key,same,k,s=>if same<ix.length then
   if onI (skI key (its.getD (ix.getD (k%ix.length) 0) Ad))then
    if vcmp (keyI (skI key (its.getD (ix.getD (k%ix.length) 0) Ad))) key=0 then mtL ix f (its.set (ix.getD (k%ix.length) 0) (skI key (its.getD (ix.getD (k%ix.length) 0) Ad))) key (same+1) (k+1) (s+1)
    else mtL ix f (its.set (ix.getD (k%ix.length) 0) (skI key (its.getD (ix.getD (k%ix.length) 0) Ad))) (keyI (skI key (its.getD (ix.getD (k%ix.length) 0) Ad))) 1 (k+1) (s+1)
   else(its.set (ix.getD (k%ix.length) 0) (skI key (its.getD (ix.getD (k%ix.length) 0) Ad)),s,Ac)
  else(its,s,Ab)
def gtI(v:Va)(it:It):Nat:=((AJ it.p (it.e-it.p)).filter λj=>decide (vcmp v ((vls it.t (it.l-1)).getD j Ad)<0)).length
def gtA(ix:List Nat)(its:List It)(v:Va):Nat:=(ix.map λi=>gtI v (its.getD i Ad)).sum
def msr(ix:List Nat)(its:List It)(key:Va)(same:Nat):Nat:=gtA ix its key*(ix.length+1)+(ix.length-same)
def metJ(ix:List Nat)(its:List It)(s:Nat):List It×Nat×Bool:=
 if onI (its.getD (ix.getD 0 0) Ad)then mtL ix (msr ix its (keyI (its.getD (ix.getD 0 0) Ad)) 1) its (keyI (its.getD (ix.getD 0 0) Ad)) 1 1 s else(its,s,Ac)
structure Js where
 its:List It
 row:List Va
 s:Nat
 ys:List (List Va)
def lpJ(rec:Js->Js)(ix:List Nat)(v:Nat):Nat->Bool->Js->Js
 |f+1,Ab,S=>
  let S1:=rec {S with row:=S.row.set v (keyI (S.its.getD (ix.getD 0 0) Ad))}
  let it:=nxI (S1.its.getD (ix.getD 0 0) Ad)
  let its2:=S1.its.set (ix.getD 0 0) it
  if onI it then lpJ rec ix v f (metJ ix its2 S1.s).2.2 {S1 with its:=(metJ ix its2 S1.s).1,s:=(metJ ix its2 S1.s).2.1}else{S1 with its:=its2}
 |_,_,S=>S
def extJ(ats:Nat->List Nat):Nat->Nat->Js->Js
 |0,v,S=>{S with s:=S.s+1,ys:=S.ys++[S.row]}
 |m+1,v,S=>
  let its1:=zCs (ats v) S.its
  let r:=metJ (ats v) its1 S.s
  let S2:=lpJ (extJ ats m (v+1)) (ats v) v ((its1.getD ((ats v).getD 0 0) Ad).e) r.2.2 {S with its:=r.1,s:=r.2.1}
  {S2 with its:=zJl (ats v) S2.its}
structure LvI(it:It):Prop where
 l1:1<=it.l
 l2:it.l<=it.t.length
 pe:it.p<=it.e
 sib:it.p<it.e->Sib (it.t.drop (it.l-1)) it.p it.e
variable{l:Nat}
theorem zT3(h1:1<=l)(h2:l<=t.length):t.drop (l-1)=t.getD (l-1) Ad::t.drop l:=by
 grind [List.drop_eq_getElem_cons,AL]
variable{it:It}{i j:Nat}
theorem LvI.asc(h:LvI it)(h1:it.p<=i)(h2:i<j)(h3:j<it.e):vcmp ((vls it.t (it.l-1)).getD i Ad) ((vls it.t (it.l-1)).getD j Ad)<0:=by
 have:=h.sib (by omega)
 rw[zT3 h.l1 h.l2]at this;exact this.2.2.2.1 i j h1 h2 h3
theorem LvI.len(h:LvI it)(hp:it.p<it.e):it.e<=(vls it.t (it.l-1)).length/\it.e<(fst' it.t (it.l-1)).length:=by
 have:=h.sib hp
 rw[zT3 h.l1 h.l2]at this;exact⟨this.2.1,this.2.2.1⟩
theorem sib_sub{a':Nat}(h:Sib t a b)(h1:a<=a')(h2:a'<b):Sib t a' b:=by
 cases t with
 |nil=>trivial
 |cons l t=>
  obtain⟨s1,s2,s3,s4,s5⟩:=h;exact⟨h2,s2,s3,λi j i1=>s4 i j (by omega),λi i1=>s5 i (by omega)⟩
theorem zKc(a:Va):¬vcmp a a<0:=by grind [zBy]
theorem vcmp_asym{a b:Va}(h:vcmp a b<0):¬vcmp b a<0:=by grind [zBy]
def has(it:It)(d:Va):Prop:=∃j,it.p<=j/\j<it.e/\(vls it.t (it.l-1)).getD j Ad=d
theorem LvI.mon(h:LvI it)(v:Va):Mon (lsI v it) it.p it.e:=λi j h1 h2 h3 h4=>by
 unfold lsI at h4⊢;rw[decide_eq_true_eq]at h4⊢;rcases Ax i j with h5|h5
 ·exact zNr _ _ _ (h.asc h1 h5 h3) h4
 obtain rfl:i=j:=by omega
 exact h4
theorem zJv(h:LvI it)(hp:it.p<it.e)(v:Va):LvI (skI v it)/\it.p<=(skI v it).p/\(∀j,it.p<=j->j<(skI v it).p->vcmp ((vls it.t (it.l-1)).getD j Ad) v<0)/\((skI v it).p<it.e->¬vcmp (keyI (skI v it)) v<0):=by
 obtain⟨⟨f1,f2,f3,f4⟩,_⟩:=sek_spec (s:=it.s) (h.mon v) hp;refine⟨⟨h.l1,h.l2,f2,λhlt=>sib_sub (h.sib hp) f1 hlt⟩,f1,λj j1 j2=>?_,λhlt=>?_⟩
 ·have:=f3 j j1 j2
  grind [lsI]
 have:=f4 hlt
 unfold lsI at this;rwa[decide_eq_false_iff_not]at this
theorem has_sk(h:LvI it)(hp:it.p<it.e){v d:Va}(hd:¬vcmp d v<0):has it d↔has (skI v it) d:=by
 obtain⟨s1,s2,s3,s4⟩:=zJv h hp v;constructor
 ·rintro⟨j,j1,j2,j3⟩;refine⟨j,?_,j2,j3⟩;grind
 rintro⟨j,j1,j2,j3⟩;exact⟨j,Av s2 j1,j2,j3⟩
theorem has_ge(h:LvI it){d:Va}(hd:has it d):¬vcmp d (keyI it)<0:=by
 obtain⟨j,j1,j2,rfl⟩:=hd;rcases Ax it.p j with hj|hj
 ·exact vcmp_asym (h.asc (Au _) hj j2)
 obtain rfl:j=it.p:=by omega
 exact zKc _
theorem zRh(h:LvI it):onI it=decide (it.p<it.e):=by
 unfold onI;rw[decide_eq_true (show 0<it.l from h.l1),B7]
theorem zZm{α:Type}(p q:α->Bool):∀(l:List α),(∀x∈l,p x=Ab->q x=Ab)->(l.filter p).length<=(l.filter q).length
 |[],_=>Au _
 |a::l,h=>by
  have ih:=zZm p q l λx hx=>h x (BA _ hx);grind
theorem filt_lt{α:Type}(p q:α->Bool):∀(l:List α),(∀x∈l,p x=Ab->q x=Ab)->(∃x∈l,p x=Ac/\q x=Ab)->(l.filter p).length<(l.filter q).length
 |[],_,⟨x,hx,_⟩=>by simp at hx
 | a::l,h,⟨x,hx,h1,h2⟩=>by
  have le:=zZm p q l λx hx=>h x (BA _ hx);rw[List.filter_cons,List.filter_cons];rcases Bc.1 hx with rfl|hx
  ·grind
  have ih:=filt_lt p q l (λx hx=>h x (BA _ hx)) ⟨x,hx,h1,h2⟩;grind
theorem gt_sk(h:LvI it)(hp:it.p<it.e)(v u:Va):gtI u (skI v it)<=gtI u it:=by
 obtain⟨s1,s2,s3,s4⟩:=zJv h hp v;unfold gtI;have e:AJ it.p (it.e-it.p)=AJ it.p ((skI v it).p-it.p)++AJ (skI v it).p ((skI v it).e-(skI v it).p):=by
  have:=s1.pe
  rw[show it.e-it.p=((skI v it).p-it.p)+((skI v it).e-(skI v it).p) by show _=_+(it.e-_);have:(skI v it).p<=it.e:=s1.pe;omega,<-B_,show it.p+((skI v it).p-it.p)=(skI v it).p by omega]
 rw[e,List.filter_append,AE];exact Nat.le_add_left _ _
variable{key:Va}
theorem gt_key{nx:Va}(h:vcmp key nx<0):gtI nx it<=gtI key it:=by
 unfold gtI;refine zZm _ _ _ λj _ hj=>?_;grind [zNr]
theorem gt_lt(hp:it.p<it.e)(h:vcmp key (keyI it)<0):gtI (keyI it) it<gtI key it:=by
 unfold gtI;refine filt_lt _ _ _ (λj _ hj=>?_) ⟨it.p,by simp;omega,?_,?_⟩
 ·grind [zNr]
 ·rw[decide_eq_false_iff_not];exact zKc _
 rw[decide_eq_true_eq];exact h
theorem zLl(ix:List Nat)(its:List It)(i:Nat)(x:It)(u w:Va)(hi:i<its.length)(h:∀j∈ix,j≠i->gtI w (its.getD j Ad)<=gtI u (its.getD j Ad))(hx:gtI w x<=gtI u (its.getD i Ad)):gtA ix (its.set i x) w<=gtA ix its u:=by
 unfold gtA;induction ix<;>grind
theorem zQ6(ix:List Nat)(its:List It)(i:Nat)(x:It)(u w:Va)(hi:i<its.length)(him:i∈ix)(h:∀j∈ix,j≠i->gtI w (its.getD j Ad)<=gtI u (its.getD j Ad))(hx:gtI w x<gtI u (its.getD i Ad)):gtA ix (its.set i x) w<gtA ix its u:=by
 induction ix with
 |nil=>simp at him
 |cons j ix ih=>
  have le:=zLl ix its i x u w hi (λk hk=>h k (BA _ hk)) (BO hx);show gtI w ((its.set i x).getD j Ad)+gtA ix (its.set i x) w<gtI u (its.getD j Ad)+gtA ix its u;grind
structure Adv(a b:It):Prop where
 t:b.t=a.t
 l:b.l=a.l
 e:b.e=a.e
 fr:b.fr=a.fr
 p:a.p<=b.p
theorem Adv.refl(a:It):Adv a a:=⟨rfl,rfl,rfl,rfl,Au _⟩
theorem Adv.trans{a b c:It}(h:Adv a b)(k:Adv b c):Adv a c:=⟨k.t.trans h.t,k.l.trans h.l,k.e.trans h.e,k.fr.trans h.fr,Av h.p k.p⟩
theorem Adv.has{a b:It}(h:Adv a b){d:Va}(k:has b d):has a d:=by
 obtain⟨j,j1,j2,j3⟩:=k;exact⟨j,Av h.p j1,h.e▸j2,by rw[<-j3,h.t,h.l]⟩
variable{x:It}{its:List It}
theorem zAg(h:i<its.length):(its.set i x).getD i Ad=x:=by
 grind
theorem zBj(h:j≠i):(its.set i x).getD j Ad=its.getD j default:=by
 grind
def zLe(ix:List Nat)(its:List It)(d:Va):Prop:=∀i∈ix,has (its.getD i Ad) d
structure Met(ix:List Nat)(its:List It)(r:List It×Nat×Bool):Prop where
 len:r.1.length=its.length
 out:∀i,i∉ix->r.1.getD i Ad=its.getD i Ad
 adv:∀i∈ix,Adv (its.getD i Ad) (r.1.getD i Ad)
 lv:∀i∈ix,LvI (r.1.getD i Ad)
 com:∀d,zLe ix its d↔r.2.2=Ab/\zLe ix r.1 d
 key:r.2.2=Ab->∃c,∀i∈ix,(r.1.getD i Ad).p<(r.1.getD i Ad).e/\keyI (r.1.getD i Ad)=c
variable{same q:Nat}
theorem idx_cover{L:Nat}(h1:L<=same)(h2:same<=k)(hq:q<L):∃m,1<=m/\m<=same/\m<=k/\(k-m)%L=q:=by
 have hr:=Ca k L;have hlt:=Bl k (show 0<L by omega);generalize hR:k%L=r at*;generalize hD:k/L=d at*;rcases Ax q r with h|h
 ·refine⟨r-q,by omega,by omega,by omega,?_⟩;rw[show k-(r-q)=q+L*d by omega,Co,Nat.mod_eq_of_lt hq]
 have hd:1<=d:=by
  grind
 obtain⟨d,rfl⟩:∃d',d=d'+1:=⟨d-1,by omega⟩;rw[Nat.mul_succ]at hr;refine⟨r+L-q,by omega,by omega,by omega,?_⟩;rw[show k-(r+L-q)=q+L*d by omega,Co,Nat.mod_eq_of_lt hq]
theorem idx_ne{L:Nat}(h1:1<=m)(h2:m<L)(h3:m<=k):(k-m)%L≠k%L:=by
 intro h;have hr:=Ca k L;have hr2:=Ca (k-m) L;rw[h]at hr2;have e:L*(k/L)=L*((k-m)/L)+m:=by omega
 have:L∣m:=by
  refine⟨k/L-(k-m)/L,?_⟩;rw[Nat.mul_sub];omega
 have:=Nat.le_of_dvd (by omega) this
 omega
theorem zA8{ix:List Nat}(h:q<ix.length):ix.getD q 0∈ix:=by
 grind
theorem getD_ix_ne{ix:List Nat}(hn:ix.Nodup){r:Nat}(hq:q<ix.length)(hr:r<ix.length)(h:q≠r):ix.getD q 0≠ix.getD r 0:=by
 simp only[AN,AL hq,AL hr,Option.getD_some];grind [List.getElem_inj]
theorem mtL_spec(ix:List Nat)(hn:ix.Nodup)(h0:0<ix.length):∀(f:Nat)(its:List It)(key:Va)(same k s:Nat),(∀i∈ix,i<its.length/\LvI (its.getD i Ad)/\(its.getD i Ad).p<(its.getD i Ad).e)->1<=same->same<=ix.length->same<=k->(∀m,1<=m->m<=same->keyI (its.getD (ix.getD ((k-m)%ix.length) 0) Ad)=key)->msr ix its key same<=f->Met ix its (mtL ix f its key same k s):=by
 have fin:∀(its:List It)(key:Va)(same k s:Nat),(∀i∈ix,i<its.length/\LvI (its.getD i Ad)/\(its.getD i Ad).p<(its.getD i Ad).e)->ix.length<=same->same<=k->(∀m,1<=m->m<=same->keyI (its.getD (ix.getD ((k-m)%ix.length) 0) Ad)=key)->Met ix its (its,s,Ab):=by
  intro its key same k s hl hs hk hkey;refine⟨rfl,λ_ _=>rfl,λi _=>Adv.refl _,λi hi=>(hl i hi).2.1,λd=>⟨λh=>⟨rfl,h⟩,λh=>h.2⟩,λ_=>⟨key,λi hi=>⟨(hl i hi).2.2,?_⟩⟩⟩;obtain⟨q,hq,rfl⟩:=BB hi;obtain⟨m,m1,m2,m3,m4⟩:=idx_cover hs hk hq;grind
 intro f;induction f with
 |zero=>
  intro its key same k s hl s1 s2 hk hkey hm;have:ix.length<=same:=by unfold msr at hm;omega
  exact fin its key same k s hl this hk hkey
 | succ f ih=>
  intro its key same k s hl s1 s2 hk hkey hm;unfold mtL;by_cases hs:same<ix.length
  ·rw [if_pos hs];have hq:k%ix.length<ix.length:=Bl _ h0;have hi:=zA8 hq;generalize hI:ix.getD (k%ix.length) 0=i at*;obtain⟨hil,hlv,hpe⟩:=hl i hi;obtain⟨sk1,sk2,sk3,sk4⟩:=zJv hlv hpe key;have hgt:=λu=>gt_sk hlv hpe key u;have hhas:=λd hd=>has_sk (d:=d) hlv hpe (v:=key) hd;have hadv:Adv (its.getD i Ad) (skI key (its.getD i Ad)):=⟨rfl,rfl,rfl,rfl,sk2⟩;have hcom:∀d,zLe ix its d->¬vcmp d key<0:=λd hd=>by
    have hq1:(k-1)%ix.length<ix.length:=Bl _ h0;have h1:=hkey 1 (Au _) s1;have h2:=hl _ (zA8 hq1);have h3:=has_ge h2.2.1 (hd _ (zA8 hq1));rw[h1]at h3;exact h3
   have hon:=zRh sk1;generalize hX:skI key (its.getD i Ad)=X at*;have hall:∀d,zLe ix its d↔zLe ix (its.set i X) d:=λd=>by
    constructor
    ·intro h j hj;by_cases e:j=i
     ·subst e;rw[zAg hil];exact(hhas d (hcom d h)).1 (h j hj)
     rw[zBj e];exact h j hj
    intro h j hj
    have:=h j hj
    by_cases e:j=i
    ·subst e;rw[zAg hil]at this;exact hadv.has this
    grind
   have hXe:X.e=(its.getD i Ad).e:=hadv.e;have hkeep:∀m,1<=m->m<=same->keyI ((its.set i X).getD (ix.getD ((k-m)%ix.length) 0) Ad)=key:=λm m1 m2=>by
    have hne:ix.getD ((k-m)%ix.length) 0≠i:=by
     rw[<-hI];exact getD_ix_ne hn (Bl _ h0) hq (idx_ne m1 (by omega) (by omega))
    grind
   have rest:∀r,Met ix (its.set i X) r->Met ix its r:=λr h=>by
    refine⟨by rw[h.len,AO],λj hj=>by rw[h.out j hj,zBj (λe:j=i=>hj (by rw[e];exact hi))],λj hj=>?_,h.lv,λd=>(hall d).trans (h.com d),h.key⟩
    have:=h.adv j hj
    by_cases e:j=i
    ·subst e;rw[zAg hil]at this;exact hadv.trans this
    grind
   by_cases hp:X.p<X.e
   ·rw [hon,decide_eq_true hp,if_pos rfl];have hl2:∀j∈ix,j<(its.set i X).length/\LvI ((its.set i X).getD j Ad)/\((its.set i X).getD j Ad).p<((its.set i X).getD j Ad).e:=λj hj=>by
     grind
    by_cases he:vcmp (keyI X) key=0
    ·rw[if_pos he];refine rest _ (ih _ _ _ _ _ hl2 (by omega) (by omega) (by omega) (λm m1 m2=>?_) ?_)
     ·rcases Ax 1 m with hm1|hm1
      ·have:=hkeep (m-1) (by omega) (by omega)
       rw[show k+1-m=k-(m-1) by omega];exact this
      obtain rfl:m=1:=by omega
      grind [A8,zAg,zBy]
     have:=zLl ix its i X key key hil (λ_ _ _=>Au _) (hgt key)
     have:=A1 (ix.length+1) this
     unfold msr at hm⊢;omega
    rw[if_neg he];have hlt:vcmp key (keyI X)<0:=by
     grind [zBy,keyI]
    refine rest _ (ih _ _ _ _ _ hl2 (by omega) (by omega) (by omega) (λm m1 m2=>?_) ?_)
    ·obtain rfl:m=1:=by omega
     grind
    have:=zQ6 ix its i X key (keyI X) hil hi (λj _ _=>gt_key hlt) (BP (gt_lt hp hlt) (hgt key))
    have:=A1 (ix.length+1) (Nat.succ_le_of_lt this)
    grind [A5,msr]
   rw[hon,decide_eq_false hp,if_neg (by decide)];refine rest _ ⟨rfl,λ_ _=>rfl,λj hj=>Adv.refl _,λj hj=>?_,λd=>⟨λh=>?_,λh=>absurd h.1 Bm⟩,λh=>absurd h Bm⟩
   ·grind
   obtain⟨j,j1,j2,_⟩:=h i hi;grind
  rw[if_neg hs];exact fin its key same k s hl (by omega) hk hkey
theorem zE2(ix:List Nat)(hn:ix.Nodup)(h0:0<ix.length)(its:List It)(s:Nat)(hl:∀i∈ix,i<its.length/\LvI (its.getD i Ad))(hp:∀i∈ix,i≠ix.getD 0 0->(its.getD i Ad).p<(its.getD i Ad).e):Met ix its (metJ ix its s):=by
 have hm:=zA8 h0;have hon:=zRh (hl _ hm).2;unfold metJ;by_cases h:(its.getD (ix.getD 0 0) Ad).p<(its.getD (ix.getD 0 0) Ad).e
 ·rw[hon,decide_eq_true h,if_pos rfl];refine mtL_spec ix hn h0 _ _ _ _ _ _ (λi hi=>⟨(hl i hi).1,(hl i hi).2,?_⟩) (Au _) (by omega) (Au _) (λm m1 m2=>?_) (Au _)
  ·grind
  simp_all
 rw[hon,decide_eq_false h,if_neg (by decide)];refine⟨rfl,λ_ _=>rfl,λj hj=>Adv.refl _,λj hj=>(hl j hj).2,λd=>⟨λh'=>?_,λh=>absurd h.1 Bm⟩,λh=>absurd h Bm⟩;obtain⟨j,j1,j2,_⟩:=h' _ hm;omega
def RSr(it:It):List (List Va):=rws (it.t.drop (it.l-1)) it.p it.e
def RS(it:It):List (List Va):=match it.l with
 |0=>rws it.t 0 (szT it.t)
 |k+1=>rws (it.t.drop (k+1)) ((fst' it.t k).getD it.p 0) ((fst' it.t k).getD (it.p+1) 0)
theorem zLu(h1:1<=it.l)(h2:it.l<=it.t.length)(d:Va)(z:List Va):d::z∈RSr it↔∃j,it.p<=j/\j<it.e/\(vls it.t (it.l-1)).getD j Ad=d/\z∈rws (it.t.drop it.l) ((fst' it.t (it.l-1)).getD j 0) ((fst' it.t (it.l-1)).getD (j+1) 0):=by
 unfold RSr;rw[zT3 h1 h2];simp only[rws,List.mem_flatMap,List.mem_range'_1,Bn,List.cons.injEq];grind
structure Res(a b:It):Prop where
 t:b.t=a.t
 l:b.l=a.l
 p:b.p=a.p
 e:b.e=a.e
 fl:b.fr.length=a.fr.length
 fr:∀j,j<a.l->b.fr.getD j (0,0)=a.fr.getD j (0,0)
theorem Res.refl(a:It):Res a a:=⟨rfl,rfl,rfl,rfl,rfl,λ_ _=>rfl⟩
theorem Res.RS{a b:It}(h:Res a b):RS b=RS a:=by
 unfold Go.Proofs.YtmfamhoopjeaiaaGreatDoor.RS;rw[h.l,h.t,h.p]
theorem Res.RSr{a b:It}(h:Res a b):RSr b=RSr a:=by
 unfold Go.Proofs.YtmfamhoopjeaiaaGreatDoor.RSr;rw[h.l,h.t,h.p,h.e]
variable{b:It}
theorem Res.lv{a:It}(h:Res a b)(k:LvI a):LvI b:=⟨by rw[h.l];exact k.l1,by rw[h.l,h.t];exact k.l2,by rw[h.p,h.e];exact k.pe,by rw[h.l,h.t,h.p,h.e];exact k.sib⟩
structure AtI(d l:Nat)(it:It):Prop where
 tl:it.t.length=d
 ll:it.l=l
 fl:it.fr.length=32
 d32:d<=32
 root:d≠0->Sib it.t 0 (szT it.t)
 lv:0<l->LvI it/\it.p<it.e
structure InI(d l:Nat)(it:It):Prop where
 tl:it.t.length=d
 ll:it.l=l
 fl:it.fr.length=32
 d32:d<=32
 root:d≠0->Sib it.t 0 (szT it.t)
 lv:LvI it
variable{d:Nat}
theorem InI.at(h:InI d l it)(hp:it.p<it.e):AtI d l it:=⟨h.tl,h.ll,h.fl,h.d32,h.root,λ_=>⟨h.lv,hp⟩⟩
theorem AtI.res{a:It}(h:AtI d l a)(r:Res a b):AtI d l b:=⟨by rw[r.t];exact h.tl,by rw[r.l];exact h.ll,by rw[r.fl];exact h.fl,h.d32,by rw[r.t];exact h.root,λhl=>⟨r.lv (h.lv hl).1,by rw[r.p,r.e];exact(h.lv hl).2⟩⟩
theorem zPg(h:AtI d l it)(hl:l<d):InI d (l+1) (opI it)/\(opI it).p<(opI it).e/\RSr (opI it)=RS it/\(opI it).t=it.t/\(opI it).fr=it.fr.set l ((it.p:Nat),(it.e:Nat)):=by
 obtain⟨h1,h2,h3,h4,h5,h6⟩:=h;cases l with
 | zero=>
  have hs:=h5 (by omega);have e:opI it={it with l:=1,p:=0,e:=szT it.t,fr:=it.fr.set 0 ((it.p:Nat),(it.e:Nat))}:=by unfold opI;rw[h2]
  have hlt:0<szT it.t:=by
   cases ht:it.t with
   |nil=>rw[ht]at h1;simp at h1;omega
   |cons m t=>rw[ht]at hs;exact hs.1
  rw[e];refine⟨⟨h1,rfl,by simpa using h3,h4,h5,⟨Au _,by show 1<=it.t.length;omega,Bh _,λ_=>hs⟩⟩,hlt,?_,rfl,rfl⟩;unfold RSr RS;rw[h2];rfl
 | succ k=>
  obtain⟨lv,hp⟩:=h6 (by omega);have hs:=lv.sib hp;rw[zT3 lv.l1 lv.l2]at hs;have hs2:=hs.2.2.2.2 it.p (Au _) hp;rw[h2,A8]at hs2;have e:opI it={it with l:=k+2,p:=(fst' it.t k).getD it.p 0,e:=(fst' it.t k).getD (it.p+1) 0,fr:=it.fr.set (k+1) ((it.p:Nat),(it.e:Nat))}:=by unfold opI;rw[h2]
  have hlt:(fst' it.t k).getD it.p 0<(fst' it.t k).getD (it.p+1) 0:=by
   have:it.t.drop (k+1)≠[]:=by simp;omega
   cases ht:it.t.drop (k+1)with
   |nil=>exact absurd ht this
   |cons m t=>rw[ht]at hs2;exact hs2.1
  rw[e];refine⟨⟨h1,rfl,by simpa using h3,h4,h5,⟨by show 1<=k+2;omega,by show k+2<=it.t.length;omega,BO hlt,λ_=>hs2⟩⟩,hlt,?_,rfl,rfl⟩;unfold RSr RS;rw[h2];rfl
section
variable(n na:Nat)(vs:Nat->List Nat)
def ats(v:Nat):List Nat:=(Aw na).filter λa=>decide (v∈vs a)
def cnt(a v:Nat):Nat:=((vs a).filter λw=>decide (w<v)).length
def prj(a v:Nat)(y:List Va):List Va:=((vs a).filter λw=>decide (v<=w)).map λw=>y.getD w Ad
structure Vok:Prop where
 asc:∀a,a<na->(vs a).Pairwise (· <·)
 lt:∀a,a<na->∀w∈vs a,w<n
 cov:∀v,v<n->∃a,a<na/\v∈vs a
structure AtV(v:Nat)(its:List It):Prop where
 len:its.length=na
 one:∀a,a<na->AtI (vs a).length (cnt vs a v) (its.getD a Ad)
structure InV(v:Nat)(its:List It):Prop where
 len:its.length=na
 inn:∀a,a<na->v∈vs a->InI (vs a).length (cnt vs a v+1) (its.getD a Ad)
 out:∀a,a<na->v∉vs a->AtI (vs a).length (cnt vs a v) (its.getD a Ad)
def Tv(v:Nat)(its:List It)(y:List Va):Prop:=∀a,a<na->if v∈vs a then prj vs a v y∈RSr (its.getD a Ad)else prj vs a v y∈RS (its.getD a Ad)
theorem zAf:a∈ats na vs v↔a<na/\v∈vs a:=by simp[ats]
theorem zMv(v:Nat):(ats na vs v).Nodup:=Cb.filter _ List.nodup_range
variable{n na vs}
theorem Vok.pos(hv:Vok n na vs)(h:v<n):0<(ats na vs v).length:=by
 obtain⟨a,h1,h2⟩:=hv.cov v h;exact List.length_pos_of_mem ((zAf na vs).2 ⟨h1,h2⟩)
theorem zL7:∀(l:List Nat)(v:Nat),l.Pairwise (· <·)->l.filter (λw=>decide (v<=w))=if v∈l then v::l.filter (λw=>decide (v+1<=w))else l.filter λw=>decide (v+1<=w)
 |[],v,h=>by simp
 |a::l,v,h=>by
  have ih:=zL7 l v (A0.1 h).2;have h1:=(A0.1 h).1;grind
theorem zQh:∀(l:List Nat)(v:Nat),l.Pairwise (· <·)->(l.filter λw=>decide (w<v+1)).length=(l.filter λw=>decide (w<v)).length+if v∈l then 1 else 0
 |[],v,h=>by simp
 |a::l,v,h=>by
  have ih:=zQh l v (A0.1 h).2;have h1:=(A0.1 h).1;grind
theorem zWl(hv:Vok n na vs)(ha:a<na)(h:v∈vs a)(y:List Va):prj vs a v y=y.getD v Ad::prj vs a (v+1) y:=by
 unfold prj;rw[zL7 _ v (hv.asc a ha),if_pos h];rfl
theorem prj_out(hv:Vok n na vs)(ha:a<na)(h:v∉vs a)(y:List Va):prj vs a v y=prj vs a (v+1) y:=by
 unfold prj;rw[zL7 _ v (hv.asc a ha),if_neg h]
theorem cnt_in(hv:Vok n na vs)(ha:a<na)(h:v∈vs a):cnt vs a (v+1)=cnt vs a v+1:=by
 unfold cnt;rw[zQh _ v (hv.asc a ha),if_pos h]
theorem cnt_out(hv:Vok n na vs)(ha:a<na)(h:v∉vs a):cnt vs a (v+1)=cnt vs a v:=by
 unfold cnt;rw[zQh _ v (hv.asc a ha),if_neg h];rfl
theorem zMt(hv:Vok n na vs)(ha:a<na)(h:v∈vs a):cnt vs a v<(vs a).length:=by
 have h1:=cnt_in hv ha h;have h2:cnt vs a (v+1)<=(vs a).length:=Cc _ _;omega
end
variable{a:It}{r:List It×Nat×Bool}{α:Type}
section
variable{n na:Nat}{vs:Nat->List Nat}
theorem zVn{y:List Va}(hv:Vok n na vs)(hi:InV na vs v its)(h:Tv na vs v its y):zLe (ats na vs v) its (y.getD v Ad):=λa ha=>by
 obtain⟨a1,a2⟩:=(zAf na vs).1 ha
 have:=h a a1
 rw[if_pos a2,zWl hv a1 a2]at this;have hl:=(hi.inn a a1 a2).lv;obtain⟨j,j1,j2,j3,_⟩:=(zLu hl.l1 hl.l2 _ _).1 this;exact⟨j,j1,j2,j3⟩
theorem asc_inj(h:LvI it)(i1:it.p<=i)(i2:i<it.e)(j1:it.p<=j)(j2:j<it.e)(e:(vls it.t (it.l-1)).getD i Ad=(vls it.t (it.l-1)).getD j Ad):i=j:=by
 rcases Nat.lt_trichotomy i j with h1|h1|h1
 ·have:=h.asc i1 h1 j2;rw[e]at this;exact absurd this (zKc _)
 ·exact h1
 have:=h.asc j1 h1 i2;rw[e]at this;exact absurd this (zKc _)
theorem adv_RSr(h:Adv a b)(ha:LvI a){d:Va}(hd:has b d)(z:List Va):d::z∈RSr a↔d::z∈RSr b:=by
 rw[zLu ha.l1 ha.l2,zLu (by rw[h.l];exact ha.l1) (by rw[h.l,h.t];exact ha.l2),h.t,h.l,h.e];constructor
 ·rintro⟨j,j1,j2,j3,j4⟩;obtain⟨k,k1,k2,k3⟩:=hd;rw[h.e]at k2;rw[h.t,h.l]at k3
  have:=asc_inj ha j1 j2 (Av h.p k1) k2 (j3.trans k3.symm)
  grind
 rintro⟨j,j1,j2,j3,j4⟩;exact⟨j,Av h.p j1,j2,j3,j4⟩
theorem zG0(hi:InV na vs v its)(hm:Met (ats na vs v) its r):InV na vs v r.1:=by
 refine⟨hm.len.trans hi.len,λa a1 a2=>?_,λa a1 a2=>?_⟩
 ·have hx:=hm.adv a ((zAf na vs).2 ⟨a1,a2⟩);obtain⟨h1,h2,h3,h4,h5,h6⟩:=hi.inn a a1 a2;exact⟨by rw[hx.t];exact h1,by rw[hx.l];exact h2,by rw[hx.fr];exact h3,h4,by rw[hx.t];exact h5,hm.lv a ((zAf na vs).2 ⟨a1,a2⟩)⟩
 rw[hm.out a λh=>a2 ((zAf na vs).1 h).2];exact hi.out a a1 a2
theorem tv_met(hv:Vok n na vs)(hi:InV na vs v its)(hm:Met (ats na vs v) its r)(y:List Va):Tv na vs v its y↔Tv na vs v r.1 y:=by
 have key:zLe (ats na vs v) r.1 (y.getD v Ad)->(Tv na vs v its y↔Tv na vs v r.1 y):=λhh=>by
  refine forall_congr' λa=>forall_congr' λha=>?_;by_cases hva:v∈vs a
  ·rw[if_pos hva,if_pos hva,zWl hv ha hva];have hma:=(zAf na vs).2 ⟨ha,hva⟩;exact adv_RSr (hm.adv a hma) (hi.inn a ha hva).lv (hh a hma) _
  rw[if_neg hva,if_neg hva,hm.out a λh=>hva ((zAf na vs).1 h).2]
 constructor
 ·intro h;exact(key ((hm.com _).1 (zVn hv hi h)).2).1 h
 grind [zVn,zG0]
structure ExtP(n na:Nat)(vs:Nat->List Nat)(v:Nat)(S S':Js):Prop where
 len:S'.its.length=na
 res:∀a,a<na->Res (S.its.getD a Ad) (S'.its.getD a Ad)
 row:S'.row.length=n
 take:S'.row.take v=S.row.take v
 ys:∃J,S'.ys=S.ys++J/\Rsc J/\∀y,y∈J↔(y.length=n/\y.take v=S.row.take v/\∀a,a<na->prj vs a v y∈RS (S.its.getD a Ad))
structure LpP(n na:Nat)(vs:Nat->List Nat)(v:Nat)(S S':Js):Prop where
 len:S'.its.length=na
 res:∀a,a<na->v∉vs a->Res (S.its.getD a Ad) (S'.its.getD a Ad)
 adv:∀a,a<na->v∈vs a->(S'.its.getD a Ad).t=(S.its.getD a Ad).t/\(S'.its.getD a Ad).l=(S.its.getD a Ad).l/\(S'.its.getD a Ad).fr.length=(S.its.getD a Ad).fr.length/\∀j,j<(S.its.getD a Ad).l->(S'.its.getD a Ad).fr.getD j (0,0)=(S.its.getD a Ad).fr.getD j (0,0)
 row:S'.row.length=n
 take:S'.row.take v=S.row.take v
 ys:∃J,S'.ys=S.ys++J/\Rsc J/\∀y,y∈J↔(y.length=n/\y.take v=S.row.take v/\Tv na vs v S.its y)
theorem zB2(l:List α)(d:α)(v:Nat)(h:v<l.length):l.take (v+1)=l.take v++[l.getD v d]:=by
 simp_all
theorem zSf(l:List α)(c:α)(v:Nat)(h:v<l.length):(l.set v c).take (v+1)=l.take v++[c]:=by
 rw[zB2 _ c v (by simpa using h),List.take_set_of_le (Au _),AN,BQ h];rfl
theorem zKv(rec:Js->Js)(ix:List Nat)(v:Nat):∀(f:Nat)(S:Js),lpJ rec ix v f Ac S=S
 |0,_=>rfl
 |_+1,_=>rfl
theorem zTi(rec:Js->Js)(ix:List Nat)(v f:Nat)(S:Js)(S1:Js)(its2:List It)(h1:S1=rec {S with row:=S.row.set v (keyI (S.its.getD (ix.getD 0 0) Ad))})(h2:its2=S1.its.set (ix.getD 0 0) (nxI (S1.its.getD (ix.getD 0 0) Ad)))(hl:ix.getD 0 0<S1.its.length):lpJ rec ix v (f+1) Ab S=
  lpJ rec ix v f (metJ ix its2 S1.s).2.2 {S1 with its:=(metJ ix its2 S1.s).1,s:=(metJ ix its2 S1.s).2.1}:=by
 rw[lpJ];simp only[<-h1,<-h2];split
 ·rfl
 rename_i h;have hx:its2.getD (ix.getD 0 0) Ad=nxI (S1.its.getD (ix.getD 0 0) Ad):=by rw[h2,zAg hl]
 have hm:metJ ix its2 S1.s=(its2,S1.s,Ac):=by
  grind [metJ]
 rw[hm,zKv]
theorem res_inn(h:InI d l a)(r:Res a b):InI d l b:=⟨by rw[r.t];exact h.tl,by rw[r.l];exact h.ll,by rw[r.fl];exact h.fl,h.d32,by rw[r.t];exact h.root,r.lv h.lv⟩
theorem nx_inn(h:InI d l a)(hp:a.p<a.e):InI d l (nxI a):=⟨h.tl,h.ll,h.fl,h.d32,h.root,⟨h.lv.l1,h.lv.l2,hp,λhlt=>sib_sub (h.lv.sib hp) (AI _) hlt⟩⟩
theorem zW7(hl:LvI a){d:Va}(hd:has (nxI a) d):vcmp (keyI a) d<0:=by
 obtain⟨j,j1,j2,rfl⟩:=hd;exact hl.asc (Au _) j1 j2
theorem key_RSr(hl:LvI a)(hp:a.p<a.e)(z:List Va):keyI a::z∈RSr a↔z∈RS a:=by
 rw[zLu hl.l1 hl.l2];have e:RS a=rws (a.t.drop a.l) ((fst' a.t (a.l-1)).getD a.p 0) ((fst' a.t (a.l-1)).getD (a.p+1) 0):=by
  unfold RS
  have:=hl.l1
  grind
 rw[e];constructor
 ·rintro⟨j,j1,j2,j3,j4⟩
  have:=asc_inj hl j1 j2 (Au _) hp j3
  subst this;exact j4
 intro h;exact⟨a.p,Au _,hp,rfl,h⟩
theorem zY7(hv:Vok n na vs)(hvn:v<n)(rec:Js->Js)(hrec:∀S,AtV na vs (v+1) S.its->S.row.length=n->ExtP n na vs (v+1) S (rec S)):∀(f:Nat)(b:Bool)(S:Js),InV na vs v S.its->S.row.length=n->
  (b=Ac->∀d,¬zLe (ats na vs v) S.its d)->(b=Ab->∃c,∀i∈ats na vs v,(S.its.getD i Ad).p<(S.its.getD i Ad).e/\keyI (S.its.getD i Ad)=c)->(S.its.getD ((ats na vs v).getD 0 0) Ad).e-(S.its.getD ((ats na vs v).getD 0 0) Ad).p<=f->LpP n na vs v S (lpJ rec (ats na vs v) v f b S):=by
 have h0:=hv.pos hvn;have hi0:=zA8 h0;have hn:=zMv na vs v;obtain⟨hi1,hi2⟩:=(zAf na vs).1 hi0;have no:∀S:Js,InV na vs v S.its->S.row.length=n->(∀d,¬zLe (ats na vs v) S.its d)->LpP n na vs v S S:=λS hi hr hb=>by
  refine⟨hi.len,λa _ _=>Res.refl _,λa _ _=>⟨rfl,rfl,rfl,λ_ _=>rfl⟩,hr,rfl,[],by simp,Cb.nil,λy=>⟨λh=>by simp at h,λh=>absurd (zVn hv hi h.2.2) (hb _)⟩⟩
 intro f;induction f with
 | zero=>
  intro b S hi hr hb1 hb2 hf;cases b with
  |false=>exact no S hi hr (hb1 rfl)
  |true=>
   grind
 | succ f ih=>
  intro b S hi hr hb1 hb2 hf;cases b with
  |false=>rw[zKv];exact no S hi hr (hb1 rfl)
  | true =>
   obtain⟨c,hc⟩:=hb2 rfl;obtain⟨S1,hS1⟩:∃S1,S1=rec {S with row:=S.row.set v (keyI (S.its.getD ((ats na vs v).getD 0 0) Ad))}:=⟨_,rfl⟩;obtain⟨its2,hits2⟩:∃x,x=S1.its.set ((ats na vs v).getD 0 0) (nxI (S1.its.getD ((ats na vs v).getD 0 0) Ad)):=⟨_,rfl⟩;have hat:AtV na vs (v+1) S.its:=⟨hi.len,λa ha=>by
    by_cases hva:v∈vs a
    ·rw[cnt_in hv ha hva];exact(hi.inn a ha hva).at (hc a ((zAf na vs).2 ⟨ha,hva⟩)).1
    rw[cnt_out hv ha hva];exact hi.out a ha hva⟩
   have hk0:keyI (S.its.getD ((ats na vs v).getD 0 0) Ad)=c:=(hc _ hi0).2;have hR:=hrec {S with row:=S.row.set v (keyI (S.its.getD ((ats na vs v).getD 0 0) Ad))} hat (by simpa using hr);rw[<-hS1]at hR;obtain⟨r1,r2,r3,r4,J1,y1,y2,y3⟩:=hR;simp only at r2 r4 y1 y3;rw[hk0,zSf _ _ _ (by omega)]at r4 y3;have hl1:(ats na vs v).getD 0 0<S1.its.length:=by rw[r1];exact hi1
   rw[zTi rec _ v f S S1 its2 hS1 hits2 hl1];have hi2':InV na vs v its2:=by
    rw[hits2];refine⟨by rw[AO];exact r1,λa ha hva=>?_,λa ha hva=>?_⟩
    ·have hh:=res_inn (hi.inn a ha hva) (r2 a ha);by_cases e:a=(ats na vs v).getD 0 0
     ·subst e;rw[zAg hl1];exact nx_inn hh (by rw[(r2 _ ha).p,(r2 _ ha).e];exact(hc _ hi0).1)
     grind
    rw[zBj (λe=>hva (by rw[e];exact hi2))];exact(hi.out a ha hva).res (r2 a ha)
   have hm:=zE2 (ats na vs v) hn h0 its2 S1.s (λa ha=>⟨by rw[hi2'.len];exact((zAf na vs).1 ha).1,(hi2'.inn a ((zAf na vs).1 ha).1 ((zAf na vs).1 ha).2).lv⟩) (λa ha hne=>by
    rw[hits2,zBj hne,(r2 a ((zAf na vs).1 ha).1).p,(r2 a ((zAf na vs).1 ha).1).e];exact(hc a ha).1)
   generalize hr':metJ (ats na vs v) its2 S1.s=r at*;have h2e:(its2.getD ((ats na vs v).getD 0 0) Ad).e=(S.its.getD ((ats na vs v).getD 0 0) Ad).e:=by
    rw[hits2,zAg hl1];exact(r2 _ hi1).e
   have h2p:(its2.getD ((ats na vs v).getD 0 0) Ad).p=(S.its.getD ((ats na vs v).getD 0 0) Ad).p+1:=by
    rw[hits2,zAg hl1];show(S1.its.getD _ Ad).p+1=_;rw[(r2 _ hi1).p]
   have hL:=ih r.2.2 {S1 with its:=r.1,s:=r.2.1} (zG0 hi2' hm) r3 (λhf' d hd=>by
     have:=(hm.com d).1 λi hi=>(hm.adv i hi).has (hd i hi)
     rw[hf']at this;exact absurd this.1 (by decide)) hm.key (by
     have a1:=(hm.adv _ hi0).e;have a2:=(hm.adv _ hi0).p;have a3:=(hc _ hi0).1;show(r.1.getD _ Ad).e-(r.1.getD _ Ad).p<=f;rw[a1,h2e];rw[h2p]at a2;omega)
   obtain⟨l1,l2,l3,l4,l5,J2,z1,z2,z3⟩:=hL;simp only at l2 l3 l5 z1 z3;have t1:S1.row.take v=S.row.take v:=by
    have:=congrArg (AH v) r4
    grind
   rw[t1]at l5 z3;have split:∀y,y.length=n->y.take v=S.row.take v->(Tv na vs v S.its y↔(y.take (v+1)=S.row.take v++[c]/\∀a,a<na->prj vs a (v+1) y∈RS (S.its.getD a Ad))\/Tv na vs v its2 y):=λy hy hyt=>by
    have htk:y.take (v+1)=S.row.take v++[c]↔y.getD v Ad=c:=by
     grind [zB2,Cp]
    rw[htk];by_cases hyc:y.getD v Ad=c
    ·have hno:¬Tv na vs v its2 y:=λh=>by
      have:=zVn hv hi2' h _ hi0
      rw[hits2,zAg hl1]at this
      have:=zW7 ((r2 _ hi1).lv (hi.inn _ hi1 hi2).lv) this
      have hk:keyI (S1.its.getD ((ats na vs v).getD 0 0) Ad)=c:=by
       rw[<-hk0];unfold keyI;rw[(r2 _ hi1).t,(r2 _ hi1).l,(r2 _ hi1).p]
      simp_all [zKc]
     constructor
     ·intro h;refine .inl ⟨hyc,λa ha=>?_⟩
      have:=h a ha
      by_cases hva:v∈vs a
      ·have hcc:=hc a ((zAf na vs).2 ⟨ha,hva⟩);rw[if_pos hva,zWl hv ha hva,hyc,<-hcc.2,key_RSr (hi.inn a ha hva).lv hcc.1]at this;exact this
      grind [prj_out]
     rintro(⟨_,h⟩|h)
     ·intro a ha
      have:=h a ha
      by_cases hva:v∈vs a
      ·have hcc:=hc a ((zAf na vs).2 ⟨ha,hva⟩);rw[if_pos hva,zWl hv ha hva,hyc,<-hcc.2,key_RSr (hi.inn a ha hva).lv hcc.1];exact this
      grind [prj_out]
     exact absurd h hno
    have key:Tv na vs v S.its y↔Tv na vs v its2 y:=by
     refine forall_congr' λa=>forall_congr' λha=>?_;by_cases hva:v∈vs a
     ·rw [if_pos hva,if_pos hva,hits2];by_cases e:a=(ats na vs v).getD 0 0
      ·subst e;have hlv:=(hi.inn _ ha hva).lv;rw[zAg hl1,zWl hv ha hva];have e1:RSr (nxI (S1.its.getD ((ats na vs v).getD 0 0) Ad))=RSr (nxI (S.its.getD ((ats na vs v).getD 0 0) Ad)):=by
        unfold RSr nxI;simp only[(r2 _ hi1).t,(r2 _ hi1).l,(r2 _ hi1).p,(r2 _ hi1).e]
       rw[e1,zLu hlv.l1 hlv.l2,zLu (it:=nxI _) hlv.l1 hlv.l2];constructor
       ·rintro⟨j,j1,j2,j3,j4⟩;refine⟨j,?_,j2,j3,j4⟩;rcases Ax (S.its.getD ((ats na vs v).getD 0 0) Ad).p j with h|h
        ·exact h
        have:j=(S.its.getD ((ats na vs v).getD 0 0) Ad).p:=by omega
        subst this;exact absurd (j3.symm.trans hk0) hyc
       rintro⟨j,j1,j2,j3,j4⟩;exact⟨j,Av (AI _) j1,j2,j3,j4⟩
      rw[zBj e,(r2 a ha).RSr]
     rw[if_neg hva,if_neg hva,hits2,zBj (λe=>hva (by rw[e];exact hi2)),(r2 a ha).RS]
    grind
   refine⟨l1,λa ha hva=>?_,λa ha hva=>?_,l4,l5,J1++J2,by rw[z1,y1,BL],?_,λy=>?_⟩
   ·have q1:=l2 a ha hva;rw[hm.out a λh=>hva ((zAf na vs).1 h).2,hits2,zBj (λe=>hva (by rw[e];exact hi2))]at q1;have q2:=r2 a ha;exact⟨q1.t.trans q2.t,q1.l.trans q2.l,q1.p.trans q2.p,q1.e.trans q2.e,q1.fl.trans q2.fl,λj hj=>(q1.fr j (by rw[q2.l];exact hj)).trans (q2.fr j hj)⟩
   ·obtain⟨q1,q2,q3,q4⟩:=l3 a ha hva;have q5:=hm.adv a ((zAf na vs).2 ⟨ha,hva⟩);have q6:=r2 a ha;have q7:(its2.getD a Ad).t=(S.its.getD a Ad).t/\(its2.getD a Ad).l=(S.its.getD a Ad).l/\(its2.getD a Ad).fr=(S1.its.getD a Ad).fr:=by
     rw[hits2];by_cases e:a=(ats na vs v).getD 0 0
     ·subst e;rw[zAg hl1];exact⟨q6.t,q6.l,rfl⟩
     rw[zBj e];exact⟨q6.t,q6.l,rfl⟩
    refine⟨q1.trans (q5.t.trans q7.1),q2.trans (q5.l.trans q7.2.1),by rw[q3,q5.fr,q7.2.2,q6.fl],λj hj=>?_⟩;rw[q4 j (by rw[q5.l,q7.2.1];exact hj),q5.fr,q7.2.2];exact q6.fr j hj
   ·refine List.pairwise_append.2 ⟨y2,z2,λa ha b hb=>?_⟩;obtain⟨a1,a2,a3⟩:=(y3 a).1 ha;obtain⟨b1,b2,b3⟩:=(z3 b).1 hb;have ea:=zB2 a Ad v (by omega);have hav:a.take v=S.row.take v:=by
     have:=congrArg (AH v) a2
     grind
    rw[a2,hav,Cp]at ea;simp only[List.cons.injEq,and_true]at ea;have hbv:=zVn hv hi2' ((tv_met hv hi2' hm b).2 b3) _ hi0;rw[hits2,zAg hl1]at hbv;have hgt:=zW7 ((r2 _ hi1).lv (hi.inn _ hi1 hi2).lv) hbv;have hk:keyI (S1.its.getD ((ats na vs v).getD 0 0) Ad)=c:=by
     rw[<-hk0];unfold keyI;rw[(r2 _ hi1).t,(r2 _ hi1).l,(r2 _ hi1).p]
    rw[hk]at hgt;rw[rcmp_at v a b (by omega) (by omega) (hav.trans b2.symm) (by rw[<-ea];omega),<-ea];exact hgt
   rw [Bi,y3,z3];constructor
   ·rintro(⟨h1,h2,h3⟩|⟨h1,h2,h3⟩)
    ·have hav:y.take v=S.row.take v:=by
      have:=congrArg (AH v) h2
      grind
     grind
    grind [tv_met]
   grind [tv_met]
end
section
variable{n na:Nat}{vs:Nat->List Nat}
theorem zMc(g:It->It):∀(ix:List Nat)(its:List It),(ix.foldl (λits i=>its.set i (g (its.getD i Ad))) its).length=its.length
 |[],_=>rfl
 |i::ix,its=>by rw[A6,zMc g ix,AO]
theorem zJ6(g:It->It):∀(ix:List Nat)(its:List It),ix.Nodup->(∀i∈ix,i<its.length)->∀j,(ix.foldl (λits i=>its.set i (g (its.getD i Ad))) its).getD j Ad=if j∈ix then g (its.getD j Ad)else its.getD j Ad
 |[],its,hn,hl,j=>by simp
 |i::ix,its,hn,hl,j=>by
  have hn':=List.nodup_cons.1 hn;rw[A6,zJ6 g ix _ hn'.2 (λk hk=>by rw[AO];exact hl k (by simp[hk]))];grind
theorem zLa(hv:Vok n na vs):∀(m v:Nat)(S:Js),m+v=n->AtV na vs v S.its->S.row.length=n->ExtP n na vs v S (extJ (ats na vs) m v S):=by
 intro m;induction m with
 | zero=>
  intro v S hmv ha hr;obtain rfl:v=n:=by omega
  unfold extJ;refine⟨ha.len,λa _=>Res.refl _,hr,rfl,[S.row],rfl,List.pairwise_singleton _ _,λy=>?_⟩;rw[Bd];constructor
  ·rintro rfl;refine⟨hr,rfl,λa ha'=>?_⟩;have e1:prj vs a v S.row=[]:=by
    unfold prj;rw[Cd.2 λw hw=>by have:=hv.lt a ha' w hw;simp;omega];rfl
   have e2:cnt vs a v=(vs a).length:=by
    unfold cnt;rw[List.filter_eq_self.2 λw hw=>by have:=hv.lt a ha' w hw;simp;omega]
   obtain⟨t1,t2,t3,t4,t5,t6⟩:=ha.one a ha';grind [RS,Bo,rws,List.drop_eq_nil_of_le]
  grind
 | succ m ih=>
  intro v S hmv ha hr;have hvn:v<n:=by omega
  have h0:=hv.pos hvn;have hi0:=zA8 h0;have hn:=zMv na vs v;have hlt:∀i∈ats na vs v,i<S.its.length:=λi hi=>by rw[ha.len];exact((zAf na vs).1 hi).1
  have hop:∀j,(zCs (ats na vs v) S.its).getD j Ad=if j∈ats na vs v then opI (S.its.getD j Ad)else S.its.getD j default:=zJ6 opI _ _ hn hlt
  have hol:(zCs (ats na vs v) S.its).length=S.its.length:=zMc opI _ _;unfold extJ;simp only;generalize hI1:zCs (ats na vs v) S.its=its1 at*;have hin:∀a,a<na->v∈vs a->its1.getD a Ad=opI (S.its.getD a Ad):=λa h1 h2=>by rw[hop,if_pos ((zAf na vs).2 ⟨h1,h2⟩)]
  have hout:∀a,v∉vs a->its1.getD a Ad=S.its.getD a default:=λa h2=>by rw[hop,if_neg λh=>h2 ((zAf na vs).1 h).2]
  have hsp:∀a (h1:a<na)(h2:v∈vs a),_:=λa h1 h2=>zPg (ha.one a h1) (zMt hv h1 h2);have hi1:InV na vs v its1:=⟨by rw[hol];exact ha.len,λa h1 h2=>by rw[hin a h1 h2];exact(hsp a h1 h2).1,λa h1 h2=>by rw[hout a h2];exact ha.one a h1⟩;have hm:=zE2 (ats na vs v) hn h0 its1 S.s (λa h=>⟨by rw[hol];exact hlt a h,(hi1.inn a ((zAf na vs).1 h).1 ((zAf na vs).1 h).2).lv⟩) (λa h _=>by
   obtain⟨h1,h2⟩:=(zAf na vs).1 h;rw[hin a h1 h2];exact(hsp a h1 h2).2.1)
  generalize hr':metJ (ats na vs v) its1 S.s=r at*;have hL:=zY7 hv hvn (extJ (ats na vs) m (v+1)) (λS h1 h2=>ih (v+1) S (by omega) h1 h2) ((its1.getD ((ats na vs v).getD 0 0) Ad).e) r.2.2 {S with its:=r.1,s:=r.2.1} (zG0 hi1 hm) hr (λhf' d hd=>by
   have:=(hm.com d).1 λi hi=>(hm.adv i hi).has (hd i hi)
   rw[hf']at this;exact absurd this.1 (by decide)) hm.key (by
    show(r.1.getD _ Ad).e-_<=_;rw[(hm.adv _ hi0).e];omega)
  generalize lpJ (extJ (ats na vs) m (v+1)) (ats na vs v) v ((its1.getD ((ats na vs v).getD 0 0) Ad).e) r.2.2 {S with its:=r.1,s:=r.2.1}=S2 at*;obtain⟨l1,l2,l3,l4,l5,J,z1,z2,z3⟩:=hL;simp only at l2 l3 l5 z1 z3;have hul:(zJl (ats na vs v) S2.its).length=S2.its.length:=zMc upI _ _;have hup:∀j,(zJl (ats na vs v) S2.its).getD j Ad=if j∈ats na vs v then upI (S2.its.getD j Ad)else S2.its.getD j default:=zJ6 upI _ _ hn λi hi=>by rw[l1];exact((zAf na vs).1 hi).1
  refine⟨by rw[hul];exact l1,λa h1=>?_,l4,l5,J,z1,z2,λy=>(z3 y).trans ?_⟩
  ·simp only[hup];by_cases h2:v∈vs a
   ·have hma:=(zAf na vs).2 ⟨h1,h2⟩;rw[if_pos hma];obtain⟨q1,q2,q3,q4⟩:=l3 a h1 h2;have q5:=hm.adv a hma;rw[hin a h1 h2]at q5;obtain⟨p1,p2,p3,p4,p5⟩:=hsp a h1 h2;have hal:=(ha.one a h1).ll;have hfl:=(ha.one a h1).fl;have hd:=(ha.one a h1).d32;have hc:=zMt hv h1 h2;have ell:(S2.its.getD a Ad).l=cnt vs a v+1:=by rw[q2,q5.l,p1.ll]
    have efr:∀j,j<cnt vs a v+1->(S2.its.getD a Ad).fr.getD j (0,0)=((S.its.getD a Ad).fr.set (cnt vs a v) (((S.its.getD a Ad).p:Nat),((S.its.getD a Ad).e:Nat))).getD j (0,0):=λj hj=>by
     rw[q4 j (by rw[q5.l,p1.ll];exact hj),q5.fr,p5]
    have e0:=efr (cnt vs a v) (Nat.lt_succ_self _);rw[AN (l:=List.set _ _ _),BQ (by omega)]at e0;refine⟨?_,?_,?_,?_,?_,λj hj=>?_⟩
    ·show(S2.its.getD a Ad).t=_;rw[q1,q5.t,p4]
    ·show(S2.its.getD a Ad).l-1=_;rw[ell,hal];rfl
    ·show((S2.its.getD a Ad).fr.getD ((S2.its.getD a Ad).l-1) (0,0)).1.toNat=_;grind
    ·show((S2.its.getD a Ad).fr.getD ((S2.its.getD a Ad).l-1) (0,0)).2.toNat=_;grind
    ·show(S2.its.getD a Ad).fr.length=_;rw[q3,q5.fr,p5,AO]
    show(S2.its.getD a Ad).fr.getD j (0,0)=_;rw[hal]at hj;rw[efr j (by omega),AN,BR (by omega),<-AN]
   rw[if_neg λh=>h2 ((zAf na vs).1 h).2]
   have:=l2 a h1 h2
   rw[hm.out a λh=>h2 ((zAf na vs).1 h).2,hout a h2]at this;exact this
  refine and_congr_right λ_=>and_congr_right λ_=>?_;rw[<-tv_met hv hi1 hm];refine forall_congr' λa=>forall_congr' λh1=>?_;grind
end
variable{ops:Array Oper}{b:Bk}{Q:Exit->List D->List Bk->Prop}{S:Js}{c:List (Nat×Nat)}{st bs:List Bk}{sl:List D}{N:Nat}{T:Par}{P:Program}
section
open Go.RowKit
abbrev itK(it:It):Bk:=itB it.t (it.l:Nat) (it.p:Nat) (it.e:Nat) (frC it.fr) (it.s:Nat)
structure Lay where
 N:Nat
 na:Nat
 n:Nat
 jb:Nat
 rb:Nat
 tb:Nat
 ab:Nat->Nat
 ib:Nat->Nat
 vs:Nat->List Nat
 cb:Nat
 ch:List Nat
 yb:List (List Va)->Nat->Option Bk
 bs:Nat->Bk
abbrev Lay.ix(L:Lay)(v:Nat):List Nat:=ats L.na L.vs v
abbrev jB(L:Lay)(s:Nat):Bk:=⟨[.osl L.rb 0 L.n (L.n*3) Ab, .osl L.tb 0 L.n L.n Ab,iD (s:Nat), .clo (.func 41) [] [.own L.cb 0]],181,0,Ac,Ac, .plain⟩
abbrev roB(r:List Va):Bk:=⟨zM r,107,3,Ab,Ac, .plain⟩
abbrev ixB(L:Lay)(ix:List Nat):Bk:=⟨ix.map λi=> .own (L.ib i) 0,188,1,Ab,Ac, .sh⟩
abbrev tbB(L:Lay):Bk:=⟨(Aw L.n).map λv=> .osl (L.ab v) 0 (L.ix v).length (L.ix v).length Ab,182,1,Ab,Ac, .sh⟩
def blk(L:Lay)(S:Js)(k:Nat):Bk:=if k=L.jb then jB L S.s else if k=L.rb then roB S.row else match(Aw L.na).find? (λi=>L.ib i==k)with
 |some i=>itK (S.its.getD i Ad)
 |none=>(L.yb S.ys k).getD (L.bs k)
def lay(L:Lay)(S:Js):List Bk:=(Aw L.N).map (blk L S)
def namB(N:Nat)(b:Bk):Prop:=b.nob=Ab\/∀j,N<=j->zAt j b.cells=Ac
structure LOk(L:Lay):Prop where
 sm:L.N<=100000
 jb:L.jb<L.N
 rb:L.rb<L.N
 tb:L.tb<L.N
 jr:L.rb≠L.jb
 ib:∀i,i<L.na->L.ib i<L.N/\L.ib i≠L.jb/\L.ib i≠L.rb
 ii:∀i j,i<L.na->j<L.na->L.ib i=L.ib j->i=j
 ts:L.tb≠L.jb/\L.tb≠L.rb/\(∀i,i<L.na->L.ib i≠L.tb)/\L.bs L.tb=tbB L/\∀ys,L.yb ys L.tb=AA
 ab:∀v,v<L.n->L.ab v<L.N/\L.ab v≠L.jb/\L.ab v≠L.rb/\(∀i,i<L.na->L.ib i≠L.ab v)/\L.bs (L.ab v)=ixB L (L.ix v)/\∀ys,L.yb ys (L.ab v)=AA
 ch:∀k∈L.ch,k≠L.jb/\k≠L.rb/\k≠L.tb/\(∀v,v<L.n->k≠L.ab v)/\∀i,i<L.na->k≠L.ib i
 cb:L.cb<L.N/\L.cb∉L.ch
 nb:∀k,k<L.N->namB L.N (L.bs k)
 ny:∀ys k b,L.yb ys k=Ah b->namB L.N b
section
variable{L:Lay}{S:Js}
theorem zBd:(lay L S).length=L.N:=by simp[lay]
theorem zHs(h:k<L.N):(lay L S)[k]?=Ah (blk L S k):=by simp[lay,h]
theorem find_ib(h:LOk L)(hi:i<L.na):(Aw L.na).find? (λj=>L.ib j==L.ib i)=Ah i:=by
 rw[List.find?_eq_some_iff_append];refine⟨by simp,Aw i,(AJ (i+1) (L.na-i-1)),?_,λj hj=>?_⟩
 ·rw[List.range_eq_range',List.range_eq_range',show L.na=i+(1+(L.na-i-1)) by omega,<-B_,<-B_];simp
 have hj:=AX.1 hj;simp only[BC,beq_eq_false_iff_ne];exact λe=>by have:=h.ii j i (by omega) hi e;omega
theorem zP6(hk:∀i,i<L.na->L.ib i≠k):(Aw L.na).find? (λi=>L.ib i==k)=none:=by
 grind
theorem blk_j:blk L S L.jb=jB L S.s:=by grind [blk]
theorem blk_r(h:LOk L):blk L S L.rb=roB S.row:=by unfold blk;rw[if_neg h.jr,if_pos rfl]
theorem blk_i(h:LOk L)(hi:i<L.na):blk L S (L.ib i)=itK (S.its.getD i Ad):=by
 unfold blk;rw[if_neg (h.ib i hi).2.1,if_neg (h.ib i hi).2.2,find_ib h hi]
theorem zQy(h:LOk L):(lay L S)[L.jb]?=Ah (jB L S.s):=by rw[zHs h.jb,blk_j]
theorem lay_r(h:LOk L):(lay L S)[L.rb]?=Ah (roB S.row):=by rw[zHs h.rb,blk_r h]
theorem zTm(h:LOk L)(hi:i<L.na):(lay L S)[L.ib i]?=Ah (itK (S.its.getD i Ad)):=by rw[zHs (h.ib i hi).1,blk_i h hi]
theorem lay_t(h:LOk L):(lay L S)[L.tb]?=Ah (tbB L):=by
 obtain⟨h1,h2,h3,h4,h5⟩:=h.ts;rw[zHs h.tb];simp_all [blk,zP6]
theorem zY9(h:LOk L)(hv:v<L.n):(lay L S)[L.ab v]?=Ah (ixB L (L.ix v)):=by
 obtain⟨h0,h1,h2,h3,h4,h5⟩:=h.ab v hv;simp_all [zHs,blk,zP6]
theorem zTl{S':Js}(h:∀j,j≠k->blk L S j=blk L S' j)(hb:blk L S' k=b):(lay L S).set k b=lay L S':=by
 apply A2;grind [lay,AV,List.length_range,Bf,Ax]
theorem zPv(h:LOk L)(s:Nat):(lay L S).set L.jb (jB L s)=lay L {S with s:=s}:=by
 grind [zTl,blk_j,blk]
theorem lay_set_r(h:LOk L)(r:List Va):(lay L S).set L.rb (roB r)=lay L {S with row:=r}:=by
 grind [zTl,blk_r,blk]
theorem zK0(h:LOk L)(hi:i<L.na)(hl:i<S.its.length)(x:It):(lay L S).set (L.ib i) (itK x)=lay L {S with its:=S.its.set i x}:=by
 refine zTl (λj hj=>?_) ?_
 ·unfold blk;grind
 simp_all [blk_i,itK,zAg]
theorem zNe(it:It):(itK it).free:=zBe (zBu _)
theorem blk_nam(h:LOk L)(hk:k<L.N):namB L.N (blk L S k):=by
 unfold blk;split
 ·refine .inr λj hj=>?_;have h1:=h.rb;have h2:=h.tb;have h3:=h.cb.1;simp only[zAt,refs,Bp,Bool.false_or,Bool.or_eq_false_iff,beq_eq_false_iff_ne];omega
 split
 ·exact .inl rfl
 split
 ·exact .inr λj _=>zW5 (zBu _) j
 rename_i hq;cases e:L.yb S.ys k with
 |none=>exact h.nb k hk
 |some b=>exact h.ny _ _ b e
end
theorem zVj(hl:st.length=N)(hn:∀b∈st,namB N b)(hs:∀j∈ownL sl,j<N)(hk:∀k,N<=k->T.keep k=Ac):Weak T sl (st++bs) sl st:=by
 have ht:(st++bs).take N=st:=by rw[<-hl,BD];rfl
 have:=Weak.cut (T:=T) (sl:=sl) (st:=st++bs) N ?_ hk
 ·grind
 unfold zF8;simp only[A9,AX,Bq,BC,A4];intro i hi;refine⟨zDj sl λj hj=>by have:=hs j hj;omega,λe he=>?_⟩;rw[ht]at he;rcases hn e he with h|h;all_goals grind
def lts(N:Nat):List Nat->Prop
 |[]=>True
 |j::l=>j<N/\lts N l
theorem zTg{N:Nat}:∀{l:List Nat},lts N l->∀j∈l,j<N
 |[],_,j,hj=>by simp at hj
 |i::l,h,j,hj=>by
  rcases Bc.1 hj with rfl|hj
  ·exact h.1
  exact zTg h.2 j hj
theorem zPw{L:Lay}(h:LOk L):∀b∈lay L S,namB L.N b:=λb hb=>by
 obtain⟨k,hk,rfl⟩:=Bn.1 hb;exact blk_nam h (AX.1 hk)
theorem zM9{c:Code}(dead:List Nat)(C:Prop)(hl:st.length=N)(hn:∀b∈st,namB N b)(hk:∀k,N<=k->T.keep k=Ac)(hC:lts N (ownL (zAe sl dead))=C)(hs:C)(k:awp P T c Q (zAe sl dead) st):zZ P T c Q sl (st++bs):=
 ⟨_,_,(BS (LeL.dead dead sl)).trans (zVj hl hn (zTg (hC▸hs)) hk),k⟩
theorem zKb{sl':List D}(C:Prop)(hl:st.length=N)(hn:∀b∈st,namB N b)(hk:∀k,N<=k->T.keep k=Ac)(hw:Weak T sl (st++bs) sl' (st++bs))(hC:lts N (ownL sl')=C)(hs:C):Weak T sl (st++bs) sl' st:=
 hw.trans (zVj hl hn (zTg (hC▸hs)) hk)
theorem zD3(h1:zGz P T ops [(q,n)] sl st)(h2:zGz P T ops c sl st):zGz P T ops ((q,n)::c) sl st:=λx hx=>by
 rcases Bc.1 hx with rfl|hx
 ·exact h1 _ (by simp)
 exact h2 x hx
def litL(P:Program)(T:Par)(o:Oper)(sl:List D):Option (Prop×D):=match o.guard with
 |some _=>AA
 | none=>match o.op with
  | .indexAddr t x i=>match zJi P t (evD sl x) (evD sl i)with
   | .lit p d=>Ah (p,d)
   |_=>AA
  | .fieldAddr t x f=>match zJj P t (evD sl x) f with
   | .lit p d=>Ah (p,d)
   |_=>AA
  |_=>AA
theorem zNc(q n:Nat)(p:Prop)(d0 d:D)(h:litL P T (ops.getD q Ad) sl=Ah (p,d0))(ed:d0=d)(hp:p)(hd:((ops.getD q Ad).dst).map (λx=>sl[x]?)=Ah (Ah d)):zGz P T ops [(q,n)] sl st:=λx hx=>by
 rw[Bd.1 hx];subst ed;simp only;generalize ops.getD q Ad=o at*;unfold litL at h;split at h
 ·cases h
 rename_i hg;split at h
 ·rename_i t x i ho;split at h
  ·rename_i p1 d1 hl;cases h;have he:aeff P T o.op o.type (evD sl) (st.take n)= .lit p d0:=by rw[ho];exact hl
   unfold zHa gv;simp only[hg,he];refine⟨by rw[ho];rfl,hp,λx hx=>?_⟩;rw[hx]at hd;simpa using hd
  cases h
 ·rename_i t x f ho;split at h
  ·rename_i p1 d1 hl;cases h;have he:aeff P T o.op o.type (evD sl) (st.take n)= .lit p d0:=by rw[ho];exact hl
   unfold zHa gv;simp only[hg,he];refine⟨by rw[ho];rfl,hp,λx hx=>?_⟩;rw[hx]at hd;simpa using hd
  cases h
 cases h
theorem late_ldE(q n:Nat)(e:Bk)(k:Nat)(p:Prop)(d0 d:D)(h:ldL P [ops.getD q Ad] sl e=Ah (k,p,d0))(ed:d0=d)(hk:(st.take n)[k]?=Ah e)(hp:p)(hd:((ops.getD q Ad).dst).map (λx=>sl[x]?)=Ah (Ah d)):zGz P T ops [(q,n)] sl st:=by grind [zE5]
theorem zHo{c:Code}(dead:List Nat)(sl':List D)(C:Prop)(hl:st.length=N)(hn:∀b∈st,namB N b)(hk:∀k,N<=k->T.keep k=Ac)(e:zAe sl dead=sl')(hC:lts N (ownL sl')=C)(hs:C)(k:awp P T c Q sl' st):zZ P T c Q sl (st++bs):=
 zM9 dead C hl hn hk (e▸hC) hs (e▸k)
theorem zJq{dr:Bool}{l:List Oper}{K:List D->List Bk->Prop}(st':List Bk)(e:st=st')(k:seqW P T ops dr l sl st' K):seqW P T ops dr l sl st K:=e▸k
theorem next_st{b:Code}(st':List Bk)(e:st=st')(k:zZ P T b Q sl st'):zZ P T b Q sl st:=e▸k
theorem zPl{b:Code}(dead:List Nat)(sl':List D)(e:zAe sl dead=sl')(k:awp P T b Q sl' st):zZ P T b Q sl st:=⟨_,_,BS (LeL.dead dead sl),e▸k⟩
theorem zFp{o:Oper}(h:∀x∈c,st.length<=x.2):freesB o c sl st=true:=by
 unfold freesB;rw[A9];intro x hx;rw[Nat.ble_eq_true_of_le (h x hx),Bool.true_or]
theorem zFe(h:st.length<=n):st.take n=st:=Bg h
structure BdI(it:It):Prop where
 vl:∀k,(vls it.t k).length<=1000000
 fl:∀k,(fst' it.t k).length<=1000001
 fc:∀k,∀c∈fst' it.t k,c<=1000000
 t32:it.t.length<=32
 f32:it.fr.length=32
theorem BdI.of{b:It}(h:BdI a)(ht:b.t=a.t)(hf:b.fr.length=a.fr.length):BdI b:=⟨by rw[ht];exact h.vl,by rw[ht];exact h.fl,by rw[ht];exact h.fc,by rw[ht];exact h.t32,by rw[hf];exact h.f32⟩
theorem LvI.lt(h:LvI it)(hb:BdI it):it.p<it.e->it.e<=1000000:=λhp=>Av (h.len hp).1 (hb.vl _)
section
variable{st:List Bk}{k:Nat}{it:It}
theorem key_g(hst:st[k]?=Ah (itK it))(h:LvI it)(hb:BdI it)(hp:it.p<it.e):Acts Am 132 [.own k 0] st [] (.tup [.agg (vaC (keyI it)),bD Ab]) st:=by
 obtain⟨t,l,p,e,fr,s⟩:=it;obtain⟨h1,h2,h3,h4⟩:=h;simp only at h1 h2 h3 h4 hp;obtain⟨l,rfl⟩:∃l',l=l'+1:=⟨l-1,by omega⟩;have hl:=LvI.len (it:=⟨t,l+1,p,e,fr,s⟩) ⟨h1,h2,h3,h4⟩ hp;have hx:=hb.vl l;have hy:=hb.t32;simp only[A8]at hl;simp only at hx hy;have h2:=(key_a t (e:Nat) (frC fr) (s:Nat) (zBu _) l p (by omega) (by show p<(vls t l).length;omega) (by omega) (by omega)).atG (args:=[.own k 0]) (st:=st) k hst (zBe (zBu _)) (zBe (zBu _)) (zC2 []);rw[zV3 hst]at h2;exact h2
theorem keyNo_g(hst:st[k]?=Ah (itK it))(hp:it.e<=it.p):Acts Am 132 [.own k 0] st [] (.tup [.agg (vaC ⟨0,0,[]⟩),bD Ac]) st:=by
 have h2:=(keyNo_a it.t (it.p:Nat) (it.e:Nat) (frC it.fr) (it.s:Nat) (zBu _) (it.l:Nat) (by
  unfold onV;rw[decide_eq_false (show¬((it.p:Nat):Int)<(it.e:Nat) by omega),Bool.and_false])).atG (args:=[.own k 0]) (st:=st) k hst (zBe (zBu _)) (zBe (zBu _)) (zC2 [])
 rw[zV3 hst]at h2;exact h2
theorem seek_g(v:Va)(hst:st[k]?=Ah (itK it))(h:LvI it)(hb:BdI it)(hp:it.p<it.e)(hs:it.s<=100000000000000000):Acts Am 159 [.own k 0, .agg (vaC v)] st [] (bD (decide ((skI v it).p<(skI v it).e))) (st.set k (itK (skI v it))):=by
 have hm:=h.mon v;obtain⟨t,l,p,e,fr,s⟩:=it;obtain⟨h1,h2,h3,h4⟩:=h;simp only at h1 h2 h3 h4 hp hm hs;obtain⟨l,rfl⟩:∃l',l=l'+1:=⟨l-1,by omega⟩;have hl:=LvI.len (it:=⟨t,l+1,p,e,fr,s⟩) ⟨h1,h2,h3,h4⟩ hp;have hx:=hb.vl l;have hy:=hb.t32;have hf:=hb.f32;simp only[A8]at hl;simp only at hx hy hf;exact(seek_a t (frC fr) (by rw[zP4,hf]) (zBu _) l p e s v (by omega) hp hl.1 (by omega) (by omega) hs hm).atG (args:=[.own k 0, .agg (vaC v)]) (st:=st) k hst (zBe (zBu _)) (zBe (zBu _)) (λI w β vs h=>by
  simp only[RelT,Rel,RelL,vaC]at h⊢;simpa[only]using h)
theorem next_g(hst:st[k]?=Ah (itK it))(h:LvI it)(hb:BdI it)(hp:it.p<it.e):Acts Am 131 [.own k 0] st [] (bD (onI (nxI it))) (st.set k (itK (nxI it))):=by
 have hl:=h.lt hb hp;have h1:=h.l1;have h2:=(next_a it.t (it.l:Nat) (it.p:Nat) (it.e:Nat) (frC it.fr) (it.s:Nat) (by omega)).atG (args:=[.own k 0]) (st:=st) k hst (zNe _) (by
  split<;>exact zBe (zBu _)) (zC2 [])
 have e1:onV (it.l:Nat) (it.p:Nat) (it.e:Nat)=true:=by
  grind [onV]
 have e2:onV (it.l:Nat) (((it.p:Nat):Int)+1) (it.e:Nat)=onI (nxI it):=by
  unfold onV onI nxI;grind
 rw[e1,e2,B7,if_pos rfl]at h2;exact h2
theorem open_g(hst:st[k]?=Ah (itK it))(h:AtI d l it)(hb:BdI it)(hl:l<d):Acts Am 129 [.own k 0] st [] (bD Ab) (st.set k (itK (opI it))):=by
 obtain⟨o1,o2,o3,o4,o5⟩:=zPg h hl;obtain⟨h1,h2,h3,h4,h5,h6⟩:=h;have hx:=hb.vl;have hy:=hb.fl;have hz:=hb.fc;obtain⟨t,l',p,e,fr,s⟩:=it;simp only at h1 h2 h3 h5 h6 hx hy hz;subst h2;cases l' with
 |zero=>
  have ht:szT t=(zDe t 0).length:=by cases t<;>rfl
  have hn:0<(zDe t 0).length:=by rw[<-ht];exact o2
  have:=(open0_a t (p:Nat) (e:Nat) (s:Nat) fr h3 (by omega) hn).atG (args:=[.own k 0]) (st:=st) k hst (zNe ⟨t,0,p,e,fr,s⟩) (zBe (zBu _)) (zC2 [])
  rw[<-ht]at this;exact this
 |succ q=>
  obtain⟨lv,hp⟩:=h6 (by omega);have hlen:=lv.len hp;simp only[A8]at hlen;try simp only at hp
  have hne:(fst' t q).getD p 0≠(fst' t q).getD (p+1) 0:=Nat.ne_of_lt o2
  have:=(open_a t (e:Nat) (s:Nat) fr h3 q p (by omega) (by omega) (by show p+1<(fst' t q).length;omega) (by omega) (λc hc=>by have:=hz q c hc;omega) (by have:=hy q;show(fst' t q).length<=_;omega) hne).atG (args:=[.own k 0]) (st:=st) k hst (zNe ⟨t,q+1,p,e,fr,s⟩) (zBe (zBu _)) (zC2 [])
  exact this
theorem up_g(hst:st[k]?=Ah (itK it))(hb:BdI it)(hl:1<=it.l)(hl2:it.l<=32)(h0:0<=(it.fr.getD (it.l-1) (0,0)).1/\0<=(it.fr.getD (it.l-1) (0,0)).2):Acts Am 133 [.own k 0] st [] (bD Ab) (st.set k (itK (upI it))):=by
 have hf:=hb.f32;obtain⟨t,l,p,e,fr,s⟩:=it;simp only at hl hl2 h0 hf;obtain⟨l,rfl⟩:∃l',l=l'+1:=⟨l-1,by omega⟩;simp only[A8]at h0;have h2:=(up_a t (p:Nat) (e:Nat) (s:Nat) fr hf l (by omega)).atG (args:=[.own k 0]) (st:=st) k hst (zNe ⟨t,l+1,p,e,fr,s⟩) (zBe (zBu _)) (zC2 []);have e1:(fr.getD l (0,0)).1=(((fr.getD l (0,0)).1.toNat:Nat):Int):=by omega
 have e2:(fr.getD l (0,0)).2=(((fr.getD l (0,0)).2.toNat:Nat):Int):=by omega
 rw[e1,e2]at h2;exact h2
theorem steps_g(hst:st[k]?=Ah (itK it))(hb:BdI it):Acts Am 80 [.own k 0] st [] (iD (it.s:Nat)) st:=by
 have h2:=(steps_a it.t (it.l:Nat) (it.p:Nat) (it.e:Nat) (frC it.fr) (it.s:Nat) (by rw[zP4,hb.f32])).atG (args:=[.own k 0]) (st:=st) k hst (zBe (zBu _)) (zBe (zBu _)) (zC2 []);rw[zV3 hst]at h2;exact h2
end
end
theorem sk_cost(h:LvI it)(hp:it.p<it.e)(v:Va):it.s<=(skI v it).s/\(skI v it).s<=it.s+(it.e-it.p)+2:=(sek_spec (s:=it.s) (h.mon v) hp).2
abbrev big:Nat:=100000000000000000
structure MI(ix:List Nat)(na M:Nat)(its:List It)(key:Va)(same k s f:Nat):Prop where
 len:its.length=na
 lt:∀i∈ix,i<na
 lv:∀i∈ix,LvI (its.getD i Ad)/\(its.getD i Ad).p<(its.getD i Ad).e/\(its.getD i Ad).e-(its.getD i Ad).p<=M
 st:∀i∈ix,(its.getD i Ad).s+f*(M+2)<=big
 s1:1<=same
 s2:same<=ix.length
 kf:k+f<=big
 sf:s+f<=big
 ms:msr ix its key same<=f
abbrev ixk(ix:List Nat)(k:Nat):Nat:=ix.getD (k%ix.length) 0
variable{M s:Nat}
theorem MI.mem{ix:List Nat}{na:Nat}{f:Nat}(h:MI ix na M its key same k s f):ixk ix k∈ix:=zA8 (Bl _ (BP h.s1 h.s2))
theorem MI.pos{ix:List Nat}{na:Nat}{f:Nat}(h:MI ix na M its key same k s f)(hs:same<ix.length):∃f',f=f'+1:=by
 have:=h.ms
 unfold msr at this;exact⟨f-1,by omega⟩
variable{X:It}
section
variable{ix:List Nat}{na M:Nat}{its:List It}{key:Va}{same k s f:Nat}
theorem MI.lvs(h:MI ix na M its key same k s (f+1))(hX:X=skI key (its.getD (ixk ix k) Ad))(hp:X.p<X.e):∀i∈ix,LvI ((its.set (ixk ix k) X).getD i Ad)/\((its.set (ixk ix k) X).getD i Ad).p<((its.set (ixk ix k) X).getD i Ad).e/\((its.set (ixk ix k) X).getD i Ad).e-((its.set (ixk ix k) X).getD i Ad).p<=M/\((its.set (ixk ix k) X).getD i Ad).s+f*(M+2)<=big:=by
 subst hX;intro i hi;have hm:=h.mem;obtain⟨a1,a2,a3⟩:=h.lv _ hm;have a4:=h.st _ hm;obtain⟨c1,c2⟩:=sk_cost a1 a2 key;obtain⟨d1,d2,d3,d4⟩:=zJv a1 a2 key;rw[A5]at a4;by_cases e:i=ixk ix k
 ·subst e;rw[zAg (by rw[h.len];exact h.lt _ hm)];refine⟨d1,hp,?_,by omega⟩;show(its.getD (ixk ix k) Ad).e-_<=M;omega
 rw[zBj e];have b4:=h.st i hi;rw[A5]at b4;exact⟨(h.lv i hi).1,(h.lv i hi).2.1,(h.lv i hi).2.2,by omega⟩
theorem MI.eqv(h:MI ix na M its key same k s (f+1))(hs:same<ix.length)(hX:X=skI key (its.getD (ixk ix k) Ad))(hp:X.p<X.e):MI ix na M (its.set (ixk ix k) X) key (same+1) (k+1) (s+1) f:=by
 have hm:=h.mem;have hv:=h.lvs hX hp;subst hX;obtain⟨a1,a2,a3⟩:=h.lv _ hm;refine⟨by rw[AO];exact h.len,h.lt,λi hi=>⟨(hv i hi).1,(hv i hi).2.1,(hv i hi).2.2.1⟩,λi hi=>(hv i hi).2.2.2,by omega,by omega,by have:=h.kf;omega,by have:=h.sf;omega,?_⟩
 have:=zLl ix its (ixk ix k) _ key key (by rw[h.len];exact h.lt _ hm) (λ_ _ _=>Au _) (gt_sk a1 a2 key key)
 have:=A1 (ix.length+1) this
 have hm:=h.ms;unfold msr at hm⊢;omega
theorem MI.other(h:MI ix na M its key same k s (f+1))(hs:same<ix.length)(hX:X=skI key (its.getD (ixk ix k) Ad))(hp:X.p<X.e)(hne:vcmp (keyI X) key≠0):MI ix na M (its.set (ixk ix k) X) (keyI X) 1 (k+1) (s+1) f:=by
 have hm:=h.mem;have hv:=h.lvs hX hp;subst hX;obtain⟨a1,a2,a3⟩:=h.lv _ hm;obtain⟨d1,d2,d3,d4⟩:=zJv a1 a2 key;refine⟨by rw[AO];exact h.len,h.lt,λi hi=>⟨(hv i hi).1,(hv i hi).2.1,(hv i hi).2.2.1⟩,λi hi=>(hv i hi).2.2.2,by omega,by omega,by have:=h.kf;omega,by have:=h.sf;omega,?_⟩;have hlt:vcmp key (keyI (skI key (its.getD (ixk ix k) Ad)))<0:=by
  have:=d4 hp
  have:=zBy (keyI (skI key (its.getD (ixk ix k) Ad))) key
  omega
 have:=zQ6 ix its (ixk ix k) _ key _ (by rw[h.len];exact h.lt _ hm) hm (λj _ _=>gt_key hlt) (BP (gt_lt hp hlt) (gt_sk a1 a2 key key))
 have:=A1 (ix.length+1) (Nat.succ_le_of_lt this)
 rw[A5]at this;have hm:=h.ms;unfold msr at hm⊢;omega
end
theorem mtL_end(ix:List Nat)(f:Nat)(its:List It)(key:Va)(same k s:Nat)(h:ix.length<=same):mtL ix f its key same k s=(its,s,Ab):=by
 cases f<;>grind [mtL]
theorem mtL_no(ix:List Nat)(f:Nat)(its:List It)(key:Va)(same k s:Nat)(h:same<ix.length)(hX:X=skI key (its.getD (ixk ix k) Ad))(hp:onI X=Ac):mtL ix (f+1) its key same k s=(its.set (ixk ix k) X,s,Ac):=by
 grind [mtL]
theorem mtL_same(ix:List Nat)(f:Nat)(its:List It)(key:Va)(same k s:Nat)(h:same<ix.length)(hX:X=skI key (its.getD (ixk ix k) Ad))(hp:onI X=Ab)(he:vcmp (keyI X) key=0):mtL ix (f+1) its key same k s=mtL ix f (its.set (ixk ix k) X) key (same+1) (k+1) (s+1):=by
 grind [mtL]
theorem zW0(ix:List Nat)(f:Nat)(its:List It)(key:Va)(same k s:Nat)(h:same<ix.length)(hX:X=skI key (its.getD (ixk ix k) Ad))(hp:onI X=Ab)(he:vcmp (keyI X) key≠0):mtL ix (f+1) its key same k s=mtL ix f (its.set (ixk ix k) X) (keyI X) 1 (k+1) (s+1):=by
 grind [mtL]
theorem mtL_cost(ix:List Nat)(na M:Nat):∀(f:Nat)(its:List It)(key:Va)(same k s:Nat),MI ix na M its key same k s f->(mtL ix f its key same k s).2.1<=s+f/\∀i∈ix,((mtL ix f its key same k s).1.getD i Ad).s<=(its.getD i Ad).s+f*(M+2):=by
 intro f;induction f with
 |zero=>intro its key same k s h;exact⟨Au _,λi _=>by show(its.getD i Ad).s<=_;omega⟩
 | succ f ih=>
  intro its key same k s h;rw[A5];by_cases hs:same<ix.length
  ·have hm:=h.mem;obtain⟨a1,a2,a3⟩:=h.lv _ hm;obtain⟨X,hX⟩:∃X,X=skI key (its.getD (ixk ix k) Ad):=⟨_,rfl⟩;have hc:=sk_cost a1 a2 key;have hsp:=(zJv a1 a2 key).1;rw[<-hX]at hc hsp;have hset:∀i,((its.set (ixk ix k) X).getD i Ad).s<=(its.getD i Ad).s+(M+2):=λi=>by
    grind
   have hon:=zRh hsp;by_cases hp:X.p<X.e
   ·rw[decide_eq_true hp]at hon;by_cases he:vcmp (keyI X) key=0
    ·rw[mtL_same ix f its key same k s hs hX hon he];obtain⟨i1,i2⟩:=ih _ _ _ _ _ (h.eqv hs hX hp);grind
    rw[zW0 ix f its key same k s hs hX hon he];obtain⟨i1,i2⟩:=ih _ _ _ _ _ (h.other hs hX hp he);grind
   rw[decide_eq_false hp]at hon;rw[mtL_no ix f its key same k s hs hX hon];grind
  rw[mtL_end ix _ its key same k s (by omega)];grind
theorem gtI_le(v:Va)(it:It):gtI v it<=it.e-it.p:=by
 grind [gtI,Av,Cc]
theorem gtA_le(ix:List Nat)(its:List It)(v:Va)(M:Nat)(h:∀i∈ix,(its.getD i Ad).e-(its.getD i Ad).p<=M):gtA ix its v<=ix.length*M:=by
 unfold gtA;induction ix with
 |nil=>simp
 |cons i ix ih=>
  simp only[BE,List.sum_cons,AU,A5];grind [gtI_le]
def mtF(k M:Nat):Nat:=k*M*(k+1)+k
theorem msr_le(ix:List Nat)(its:List It)(v:Va)(same M:Nat)(h:∀i∈ix,(its.getD i Ad).e-(its.getD i Ad).p<=M):msr ix its v same<=mtF ix.length M:=by
 unfold msr mtF
 have:=A1 (ix.length+1) (gtA_le ix its v M h)
 omega
variable{b':Bk}{L:Lay}
section
open Go.RowKit
attribute [local irreducible] seqW awp zY zZ zR Weak updS zAe retL Pure Acts rP setP setQ cP nP fr
set_option maxRecDepth 4096
def Tj(N:Nat)(ch:List Nat):Par:=⟨λf=>f==132||f==159||f==129||f==133||f==131||f==130||f==79||f==41,λ_ _=>AA,λk=>decide (k<N)&&!ch.contains k,λo=>match o with
 | .call {callee:= .value (.tmp _),..}=>Ab
 |_=>Ac,λt=>t==188||t==182⟩
theorem Tj_ok(N:Nat)(ch:List Nat):zBg Am (Tj N ch):=by intro t n f h;cases h
theorem Tj_keep:∀k,k<(lay L S).length->(Tj L.N []).keep k=true:=λk hk=>by
 rw[zBd]at hk;show(decide (k<L.N)&&!([]:List Nat).contains k)=Ab;rw[decide_eq_true hk];rfl
theorem zYd(N:Nat)(ch:List Nat):∀k,N<=k->(Tj N ch).keep k=false:=λk hk=>by
 show(decide (k<N)&&!ch.contains k)=Ac;rw[decide_eq_false (by omega)];rfl
theorem zW3(h:i∈L.ix v):i<L.na:=((zAf _ _).1 h).1
theorem zA5(h:st.length=N):(st++[b])[N]?=Ah b:=by subst h;simp
theorem zBi(h:st[k]?=Ah b):(st++bs)[k]?=Ah b:=by
 grind
theorem zFx(h:st.length=N):(st++[b]).set N b'=st++[b']:=by subst h;simp
theorem zB7(h:k<st.length):(st++bs).set k b=st.set k b++bs:=by
 grind
theorem nam_snoc{v:Va}(h:∀b∈st,namB N b):∀b∈st++[vlB v],namB (N+1) b:=λb hb=>by
 rcases Bi.1 hb with hb|hb
 ·exact(h b hb).imp id λh j hj=>h j (by omega)
 rw[Bd.1 hb];exact .inr λj _=>by simp only[zAt,refs,Bp]
theorem hd_ix(L:Lay)(ix:List Nat)(q:Nat)(h:q<ix.length):((ix.map λi=>Ae (L.ib i) 0).drop q).headD .unk= .own (L.ib (ix.getD q 0)) 0:=by simp_all
theorem meet_a(L:Lay)(hL:LOk L)(S:Js)(v M:Nat)(hv:v<L.n)(hn:S.its.length=L.na)(h0:0<(L.ix v).length)(h32:(L.ix v).length<=1000000)
  (hi:∀i∈L.ix v,LvI (S.its.getD i Ad)/\BdI (S.its.getD i Ad)/\(S.its.getD i Ad).e-(S.its.getD i Ad).p<=M/\(S.its.getD i Ad).s+mtF (L.ix v).length M*(M+2)<=big)(hs:S.s+mtF (L.ix v).length M+1<=big)
  (hp:∀i∈L.ix v,i≠(L.ix v).getD 0 0->(S.its.getD i Ad).p<(S.its.getD i Ad).e):
  Acts Am 130 [.own L.jb 0, .osl (L.ab v) 0 (L.ix v).length (L.ix v).length Ab] (lay L S) [] (bD (metJ (L.ix v) S.its S.s).2.2) (lay L {S with its:=(metJ (L.ix v) S.its S.s).1,s:=(metJ (L.ix v) S.its S.s).2.1}):=by
 have hm:=zA8 h0;have hla:=zY9 (S:=S) hL hv;have hix:=hd_ix L (L.ix v) 0 h0;rw[AY]at hix;obtain⟨g1,g2,g3,g4⟩:=hi _ hm;have hon:=zRh g1;unfold metJ;by_cases h:(S.its.getD ((L.ix v).getD 0 0) Ad).p<(S.its.getD ((L.ix v).getD 0 0) Ad).e
 ·rw [decide_eq_true h]at hon;rw[hon,if_pos rfl];have hk:=key_g (zTm (S:=S) hL (zW3 hm)) g1 g2 h;have hb1:∀i∈L.ix v,BdI (S.its.getD i Ad):=λi hi'=>(hi i hi').2.1;have hms:=msr_le (L.ix v) S.its (keyI (S.its.getD ((L.ix v).getD 0 0) Ad)) 1 M λi hi'=>(hi i hi').2.2.1;have hMI:MI (L.ix v) L.na M S.its (keyI (S.its.getD ((L.ix v).getD 0 0) Ad)) 1 1 S.s (msr (L.ix v) S.its (keyI (S.its.getD ((L.ix v).getD 0 0) Ad)) 1):=by
   have hmul:=A1 (M+2) hms;refine⟨hn,λi hi'=>zW3 hi',λi hi'=>⟨(hi i hi').1,?_,(hi i hi').2.2.1⟩,λi hi'=>by have:=(hi i hi').2.2.2;omega,Au _,h0,by omega,by omega,Au _⟩;grind
  generalize keyI (S.its.getD ((L.ix v).getD 0 0) Ad)=key0 at*;generalize msr (L.ix v) S.its key0 1=f0 at*;generalize hG:mtL (L.ix v) f0 S.its key0 1 1 S.s=G;clear hp hi hms g1 g2 g3 g4 h hs;refine zS (Tj_ok L.N []) mixed Tryz.func130 rfl Tj_keep<|vA<|zAh [] [(4,bD Ac)] ?_;refine vA<|zX 2 [] [] ((0:Int)<=(0:Int)/\(0:Int)<(Aa (Lay.ix L v):Int)) [(13,Ag (Lay.ab L v) 0 (Aa<|Lay.ix L v) (Aa<|Lay.ix L v) Ab),(14,Ae (Lay.ab L v) 0)] ?_;refine zAs (Ai (Af (λ(i:Nat)=>Ae (Lay.ib L i) 0)<|Lay.ix L v) 188 1 Ab Ac AM) (Lay.ab L v) (Ay 1<|Aa<|Ak 0<|Af (λ(i:Nat)=>Ae (Lay.ib L i) 0)<|Lay.ix L v) (AG (Ak 0<|Af (λ(i:Nat)=>Ae (Lay.ib L i) 0)<|Lay.ix L v) Uk) hla (by(simp;omega)) ?_;refine zAi [] [] [AG (Ak 0<|Af (λ(i:Nat)=>Ae (Lay.ib L i) 0)<|Lay.ix L v) Uk] [Ae (Lay.ib L<|AK (Lay.ix L v) 0 0) 0] (BF (by simp(disch:=omega) only[AY,hix])) (by exact hk) ?_;refine zX 3 [] [] (0<2/\1<2) [(12,D.tup [An [iD<|Aq key0,iD<|Ar key0,Al<|Ap<|bs<|As key0],bD Ab]),(17,An [iD<|Aq key0,iD<|Ar key0,Al<|Ap<|bs<|As key0]),(18,bD Ab)] ?_;refine zBm (Lay.N L) (True) (Ai [iD 0,iD 0,q4_] 107 0 Ac Ac Aj) (Ae 0 0) (zBd (L:=L) (S:=S)) ?_;refine zCh (Ai [iD 0,iD 0,q4_] 107 0 Ac Ac Aj) (Lay.N L) (Ac=Ac/\Ab=Ab/\3=3/\3<=3) (Ai [iD<|Aq key0,iD<|Ar key0,Al<|Ap<|bs<|As key0] 107 0 Ac Ac Aj) (zA5<|zBd (L:=L) (S:=S)) ⟨(by kernel_rfl),⟨(by kernel_rfl),(by omega)⟩⟩ ?_;rw[zFx zBd];refine zAh [12,13,14,15,16,17,18] [(6,bD Ab)] ?_;refine zA<|vA<|zAh [6,19] [(20,bD Ac)] ?_;refine vf<|vK<|zA<|vA<|zAh [20] [(7,iD 1),(8,iD 1)] ?_;refine zF<|awp_loop5 (λ(J:Js)(key:Va)(same:Nat)(k:Nat)(f:Nat)=>fr 57 [(0,Ae (Lay.jb L) 0),(1,Ag (Lay.ab L v) 0 (Aa<|Lay.ix L v) (Aa<|Lay.ix L v) Ab),(5,Ae (Lay.N L) 0),(7,iD same),(8,iD k)]) (λ(J:Js)(key:Va)(same k f:Nat)=>lay L J++[vlB key]) (λ(J:Js)(key:Va)(same k f:Nat)=>f) (λ(J:Js)(key:Va)(same k f:Nat)=>(J.row=S.row/\J.ys=S.ys)/\MI (L.ix v) L.na M J.its key same k J.s f/\(∀i∈L.ix v,BdI<|J.its.getD i Ad)/\mtL (L.ix v) f J.its key same k J.s=G) S key0 1 1 f0 ?_ ?_ ?_
  ·grind
  ·refine vkp [0,1,5,7,8]
  clear hMI hb1 hG hon hk hm hix;rintro J key same k f ⟨⟨e1,e2⟩,hM,hB,hG⟩;have fin:∀its s,G=(its,s,G.2.2)->lay L {J with its:=its,s:=s}=lay L {S with its:=G.1,s:=G.2.1}:=λits s h=>by
   grind
  rcases Ax same (L.ix v).length with hs|hs
  ·obtain⟨f,rfl⟩:=hM.pos hs;have hq:k%(L.ix v).length<(L.ix v).length:=Bl _ h0;have hrem:((k:Nat):Int).tmod ((L.ix v).length:Nat)=((k%(L.ix v).length:Nat):Int):=(Int.ofNat_tmod _ _).symm;have hix:_=Ae (L.ib (ixk (L.ix v) k)) 0:=hd_ix L (L.ix v) (k%(L.ix v).length) hq;have hkk:=hM.kf;have hm:=hM.mem;have hil:=zW3 hm;obtain⟨a1,a2,a3⟩:=hM.lv _ hm;have a4:=hM.st _ hm;have hb:=hB _ hm;have hsk:=(zJv a1 a2 key).1;have hX:=seek_g key (zBi (bs:=[vlB key]) (zTm (S:=J) hL hil)) a1 hb a2 (Av (Nat.le_add_right _ _) a4);have hbX:BdI (skI key (J.its.getD (ixk (L.ix v) k) Ad)):=hb.of rfl rfl;have hlen:=hM.len;have hset:=λx=>zK0 (S:=J) hL hil (by rw[hlen];exact hil) x;have hJs:=hM.sf;have hlvs:=λhp=>hM.lvs rfl hp;have hno:=mtL_no (L.ix v) f J.its key same k J.s hs rfl;have hsa:=mtL_same (L.ix v) f J.its key same k J.s hs rfl;have hot:=zW0 (L.ix v) f J.its key same k J.s hs rfl;have hsaM:=hM.eqv hs rfl;have hotM:=hM.other hs rfl;have honX:=zRh hsk;generalize hXX:skI key (J.its.getD (ixk (L.ix v) k) Ad)=X at*;generalize hqq:k%(L.ix v).length=q at*;generalize hii:ixk (L.ix v) k=i at*;have hl2:∀J':Js,(lay L J'++[vlB key]).length=L.N+1:=λJ'=>by rw[AE,zBd];rfl
   have hal:∀J':Js,(lay L J'++[vlB key])[L.ab v]?=Ah (ixB L (L.ix v)):=λJ'=>zBi (zY9 hL hv);have hiN:L.ib i<L.N:=(hL.ib i hil).1;have hjj:(lay L {J with its:=J.its.set i X})[L.jb]?=Ah (jB L J.s):=zQy hL;have hJs2:J.s+f+1<=100000000000000000:=hJs;have hkk2:k+f+1<=100000000000000000:=hkk;by_cases hp:X.p<X.e
   ·rw[decide_eq_true hp]at hX honX;have hBX:∀j∈L.ix v,BdI ((J.its.set i X).getD j Ad):=λj hj=>by
     grind
    have hkX:=key_g (it:=X) (st:=lay L {J with its:=J.its.set i X}++[vlB key]) (k:=L.ib i) (zBi (by rw[zTm hL hil];simp only;rw[zAg (by rw[hlen];exact hil)])) hsk hbX hp;have hcm:=zH2 (keyI X) key;generalize keyI X=nx at*;refine zA<|vA<|zAh [21,22,23] [(24,bD<|decide ((same:Int)<(Aa (Lay.ix L v):Int)))] ?_;refine vT ((same:Int)<(Aa (Lay.ix L v):Int))<|vKB<|vA<|zX 5 [] [] ((Aa (Lay.ix L v):Int)≠(0:Int)) [(27,Ag (Lay.ab L v) 0 (Aa<|Lay.ix L v) (Aa<|Lay.ix L v) Ab),(28,iD k),(29,Ag (Lay.ab L v) 0 (Aa<|Lay.ix L v) (Aa<|Lay.ix L v) Ab),(30,iD (Aa (Lay.ix L v):Int)),(31,iD<|Int.tmod (k:Int) (Aa (Lay.ix L v):Int))] ?_;refine zAp 31 (iD<|Int.tmod (k:Int) (Aa (Lay.ix L v):Int)) (iD q) (by simp(disch:=omega) only[hrem]) ?_;refine zX 1 [] [] ((0:Int)<=(q:Int)/\(q:Int)<(Aa (Lay.ix L v):Int)) [(32,Ae (Lay.ab L v) (0+Ao (q:Int)*1))] ?_;refine zAp 32 (Ae (Lay.ab L v) (0+Ao (q:Int)*1)) (Ae (Lay.ab L v) q) (by simp(disch:=omega) only[AS,AZ,AT]) ?_;refine zAs (Ai (Af (λ(i:Nat)=>Ae (Lay.ib L i) 0)<|Lay.ix L v) 188 1 Ab Ac AM) (Lay.ab L v) (Ay 1<|Aa<|Ak q<|Af (λ(i:Nat)=>Ae (Lay.ib L i) 0)<|Lay.ix L v) (AG (Ak q<|Af (λ(i:Nat)=>Ae (Lay.ib L i) 0)<|Lay.ix L v) Uk) (hal J) (by(simp;omega)) ?_;refine zBa 1 [(9,AG (Ak q<|Af (λ(i:Nat)=>Ae (Lay.ib L i) 0)<|Lay.ix L v) Uk)] ?_;refine zAp 9 (AG (Ak q<|Af (λ(i:Nat)=>Ae (Lay.ib L i) 0)<|Lay.ix L v) Uk) (Ae (Lay.ib L i) 0) (by simp(disch:=omega) only[hix]) ?_;refine zAn ?_ (by kernel_rfl);refine vN<|zA<|vA<|zBa 1 [(34,Ae (Lay.ib L i) 0)] ?_;refine zAs (Ai [iD<|Aq key,iD<|Ar key,Al<|Ap<|bs<|As key] 107 0 Ac Ac Aj) (Lay.N L) (Ay 3 3) (An [iD<|Aq key,iD<|Ar key,Al<|Ap<|bs<|As key]) (zA5<|zBd (L:=L) (S:=J)) (by simp) ?_;refine zAi [] [] [Ae (Lay.ib L i) 0,An [iD<|Aq key,iD<|Ar key,Al<|Ap<|bs<|As key]] [Ae (Lay.ib L i) 0,An [iD<|Aq key,iD<|Ar key,Al<|Ap<|bs<|As key]] (Az _) (by exact hX) ?_;refine zAh [24,27,28,29,30,31,32,33,34,35,36] [(37,bD Ac)] ?_;refine vf<|vK<|vA<|zBa 1 [(39,Ae (Lay.ib L i) 0)] ?_;rw[zB7 (by rw[zBd];exact hiN),hset];refine zAi [] [] [Ae (Lay.ib L i) 0] [Ae (Lay.ib L i) 0] (Az _) (by exact hkX) ?_;refine zX 3 [] [] (0<2/\1<2) [(38,D.tup [An [iD<|Aq nx,iD<|Ar nx,Al<|Ap<|bs<|As nx],bD Ab]),(41,An [iD<|Aq nx,iD<|Ar nx,Al<|Ap<|bs<|As nx]),(42,bD Ab)] ?_;refine zBm (Lay.N L+1) (True) (Ai [iD 0,iD 0,q4_] 107 0 Ac Ac Aj) (Ae 0 0) (hl2 {J with its:=J.its.set i X}) ?_;refine zCh (Ai [iD 0,iD 0,q4_] 107 0 Ac Ac Aj) (Lay.N L+1) (Ac=Ac/\Ab=Ab/\3=3/\3<=3) (Ai [iD<|Aq nx,iD<|Ar nx,Al<|Ap<|bs<|As nx] 107 0 Ac Ac Aj) (zA5<|hl2 {J with its:=J.its.set i X}) ⟨(by kernel_rfl),⟨(by kernel_rfl),(by omega)⟩⟩ ?_;rw[zFx (hl2 {J with its:=J.its.set i X})];refine zAh [9,11,37,38,39,40,41,42] [] ?_;refine vA<|zBa 3 [(43,Ae (Lay.jb L) 0),(44,Ae (Lay.jb L) 0),(45,Ae (Lay.jb L) 2)] ?_;refine zAs (Ai [Ag (Lay.rb L) 0 (Lay.n L) (Lay.n L*3) Ab,Ag (Lay.tb L) 0 (Lay.n L) (Lay.n L) Ab,iD ↑(Js.s J),AB (Fn.func 41) [] [Ae (Lay.cb L) 0]] 181 0 Ac Ac Aj) (Lay.jb L) (Ay 1 2) (iD ↑(Js.s J)) (zBi<|zBi hjj) (by simp) ?_;refine zX 3 [] [] (i6 (↑(Js.s J)+1)/\True) [(47,iD ↑(Js.s J+1)),(48,Ae (Lay.jb L) 0),(49,Ae (Lay.jb L) 2)] ?_ (hc:=⟨(by omega),trivial⟩);refine zCh (Ai [Ag (Lay.rb L) 0 (Lay.n L) (Lay.n L*3) Ab,Ag (Lay.tb L) 0 (Lay.n L) (Lay.n L) Ab,iD ↑(Js.s J),AB (Fn.func 41) [] [Ae (Lay.cb L) 0]] 181 0 Ac Ac Aj) (Lay.jb L) (Ac=Ac/\Ab=Ab/\1=1/\3<=4) (Ai [Ag (Lay.rb L) 0 (Lay.n L) (Lay.n L*3) Ab,Ag (Lay.tb L) 0 (Lay.n L) (Lay.n L) Ab,iD ↑(Js.s J+1),AB (Fn.func 41) [] [Ae (Lay.cb L) 0]] 181 0 Ac Ac Aj) (zBi<|zBi hjj) ⟨(by kernel_rfl),⟨(by kernel_rfl),(by omega)⟩⟩ ?_;rw[zB7 (by rw[hl2];have:=hL.jb;omega),zB7 (by rw[zBd];exact hL.jb),zPv hL];refine zAh [43,44,45,46,47,48,49] [] ?_;refine vA<|zAs (Ai [iD<|Aq nx,iD<|Ar nx,Al<|Ap<|bs<|As nx] 107 0 Ac Ac Aj) (Lay.N L+1) (Ay 3 3) (An [iD<|Aq nx,iD<|Ar nx,Al<|Ap<|bs<|As nx]) (zA5<|hl2 _) (by simp) ?_;refine zAs (Ai [iD<|Aq key,iD<|Ar key,Al<|Ap<|bs<|As key] 107 0 Ac Ac Aj) (Lay.N L) (Ay 3 3) (An [iD<|Aq key,iD<|Ar key,Al<|Ap<|bs<|As key]) (zBi<|zA5 zBd) (by simp) ?_;by_cases he:vcmp nx key=0
    ·rw[he]at hcm;refine zYn [An [iD<|Aq nx,iD<|Ar nx,Al<|Ap<|bs<|As nx],An [iD<|Aq key,iD<|Ar key,Al<|Ap<|bs<|As key]] (by exact hcm) ?_;refine zAh [50,51,52] [(53,bD Ab)] ?_;refine vt<|zB rfl<|zX 3 [] [] (i6 (↑same+1)) [(7,iD ↑(same+1)),(54,iD same),(55,iD ↑(same+1))] ?_;refine zAn ?_ (by kernel_rfl);refine zD<|vN<|zB rfl<|zX 3 [] [] (i6 (↑k+1)) [(8,iD ↑(k+1)),(25,iD k),(26,iD ↑(k+1))] ?_;refine zAn ?_ (by kernel_rfl);refine zC<|⟨{J with its:=J.its.set i X,s:=J.s+1},key,same+1,k+1,f,⟨⟨e1,e2⟩,hsaM hp,hBX,(hsa honX he).symm.trans hG⟩,by omega,?_⟩;refine zKb (L.jb<L.N+1/\L.ab v<L.N+1/\L.N<L.N+1/\True) (N:=L.N+1) (by rw[AE,zBd];rfl) (nam_snoc<|zPw hL) (λk hk=>zYd _ _ k (by omega)) ?_ (by kernel_rfl) ⟨by have:=hL.jb;omega,by have:=(hL.ab v hv).1;omega,by omega,trivial⟩;refine vkp [0,1,5,7,8]
    refine st_call0 [An [iD<|Aq nx,iD<|Ar nx,Al<|Ap<|bs<|As nx],An [iD<|Aq key,iD<|Ar key,Al<|Ap<|bs<|As key]] [An [iD<|Aq nx,iD<|Ar nx,Al<|Ap<|bs<|As nx],An [iD<|Aq key,iD<|Ar key,Al<|Ap<|bs<|As key]] (by kernel_rfl) (Az _) (by exact hcm) ?_;refine zAh [50,51,52] [(53,bD (vcmp nx key==(0:Int)))] ?_;refine vEf (vcmp nx key) ((0:Int))<|zB rfl<|zAs (Ai [iD<|Aq nx,iD<|Ar nx,Al<|Ap<|bs<|As nx] 107 0 Ac Ac Aj) (Lay.N L+1) (Ay 3 3) (An [iD<|Aq nx,iD<|Ar nx,Al<|Ap<|bs<|As nx]) (zA5<|hl2 _) (by simp) ?_;refine zCh (Ai [iD<|Aq key,iD<|Ar key,Al<|Ap<|bs<|As key] 107 0 Ac Ac Aj) (Lay.N L) (Ac=Ac/\Ab=Ab/\3=3/\3<=3) (Ai [iD<|Aq nx,iD<|Ar nx,Al<|Ap<|bs<|As nx] 107 0 Ac Ac Aj) (zBi<|zA5 zBd) ⟨(by kernel_rfl),⟨(by kernel_rfl),(by omega)⟩⟩ ?_;rw[zB7 (by rw[hl2];omega),zFx zBd];refine zBa 1 [(7,iD 1)] ?_;refine zAn ?_ (by kernel_rfl);refine zD<|vN<|zB rfl<|zX 3 [] [] (i6 (↑k+1)) [(8,iD ↑(k+1)),(25,iD k),(26,iD ↑(k+1))] ?_;refine zAn ?_ (by kernel_rfl);refine zC<|⟨{J with its:=J.its.set i X,s:=J.s+1},nx,1,k+1,f,⟨⟨e1,e2⟩,hotM hp he,hBX,(hot honX he).symm.trans hG⟩,by omega,?_⟩;refine zKb (L.jb<L.N+1/\L.ab v<L.N+1/\L.N<L.N+1/\True) (N:=L.N+1) (st:=lay L {J with its:=J.its.set i X,s:=J.s+1}++[vlB nx]) (by rw[AE,zBd];rfl) (nam_snoc<|zPw hL) (λk hk=>zYd _ _ k (by omega)) ?_ (by kernel_rfl) ⟨by have:=hL.jb;omega,by have:=(hL.ab v hv).1;omega,by omega,trivial⟩;refine vkp [0,1,5,7,8]
   rw[decide_eq_false hp]at hX honX;have hGe:=hG.symm.trans (hno honX);subst hGe;refine zA<|vA<|zAh [21,22,23] [(24,bD<|decide ((same:Int)<(Aa (Lay.ix L v):Int)))] ?_;refine vT ((same:Int)<(Aa (Lay.ix L v):Int))<|vKB<|vA<|zX 5 [] [] ((Aa (Lay.ix L v):Int)≠(0:Int)) [(27,Ag (Lay.ab L v) 0 (Aa<|Lay.ix L v) (Aa<|Lay.ix L v) Ab),(28,iD k),(29,Ag (Lay.ab L v) 0 (Aa<|Lay.ix L v) (Aa<|Lay.ix L v) Ab),(30,iD (Aa (Lay.ix L v):Int)),(31,iD<|Int.tmod (k:Int) (Aa (Lay.ix L v):Int))] ?_;refine zAp 31 (iD<|Int.tmod (k:Int) (Aa (Lay.ix L v):Int)) (iD q) (by simp(disch:=omega) only[hrem]) ?_;refine zX 1 [] [] ((0:Int)<=(q:Int)/\(q:Int)<(Aa (Lay.ix L v):Int)) [(32,Ae (Lay.ab L v) (0+Ao (q:Int)*1))] ?_;refine zAp 32 (Ae (Lay.ab L v) (0+Ao (q:Int)*1)) (Ae (Lay.ab L v) q) (by simp(disch:=omega) only[AS,AZ,AT]) ?_;refine zAs (Ai (Af (λ(i:Nat)=>Ae (Lay.ib L i) 0)<|Lay.ix L v) 188 1 Ab Ac AM) (Lay.ab L v) (Ay 1<|Aa<|Ak q<|Af (λ(i:Nat)=>Ae (Lay.ib L i) 0)<|Lay.ix L v) (AG (Ak q<|Af (λ(i:Nat)=>Ae (Lay.ib L i) 0)<|Lay.ix L v) Uk) (hal J) (by(simp;omega)) ?_;refine zBa 1 [(9,AG (Ak q<|Af (λ(i:Nat)=>Ae (Lay.ib L i) 0)<|Lay.ix L v) Uk)] ?_;refine zAp 9 (AG (Ak q<|Af (λ(i:Nat)=>Ae (Lay.ib L i) 0)<|Lay.ix L v) Uk) (Ae (Lay.ib L i) 0) (by simp(disch:=omega) only[hix]) ?_;refine zAn ?_ (by kernel_rfl);refine vN<|zA<|vA<|zBa 1 [(34,Ae (Lay.ib L i) 0)] ?_;refine zAs (Ai [iD<|Aq key,iD<|Ar key,Al<|Ap<|bs<|As key] 107 0 Ac Ac Aj) (Lay.N L) (Ay 3 3) (An [iD<|Aq key,iD<|Ar key,Al<|Ap<|bs<|As key]) (zA5<|zBd (L:=L) (S:=J)) (by simp) ?_;refine zAi [] [] [Ae (Lay.ib L i) 0,An [iD<|Aq key,iD<|Ar key,Al<|Ap<|bs<|As key]] [Ae (Lay.ib L i) 0,An [iD<|Aq key,iD<|Ar key,Al<|Ap<|bs<|As key]] (Az _) (by exact hX) ?_;refine zBa 1 [(37,bD Ab)] ?_;refine zAn ?_ (by kernel_rfl);refine zC ?_;rw[zB7 (by rw[zBd];exact hiN),hset];refine zM9 [5,9,27,29,32,33,34] (L.jb<L.N/\L.ab v<L.N/\True) zBd (zPw hL) (zYd _ _) (by kernel_rfl) ⟨hL.jb,(hL.ab v hv).1,trivial⟩ ?_;refine vt<|vA<|zAh [24,28,30,31,35,36,37] [(4,bD Ac)] ?_;refine zG<|zE<|zH<|zE<|zE<|zH<|zE<|zT (True) [Al<|A3 Ac] (.inr rfl) ?_;exact⟨by kernel_rfl,fin _ _ rfl⟩
  have hGe:=hG.symm.trans (mtL_end (L.ix v) f J.its key same k J.s hs);subst hGe;refine zA<|vA<|zAh [21,22,23] [(24,bD<|decide ((same:Int)<(Aa (Lay.ix L v):Int)))] ?_;refine vF ((same:Int)<(Aa (Lay.ix L v):Int))<|vY2<|zC<|zM9 [5] (L.jb<L.N/\L.ab v<L.N/\True) zBd (zPw hL) (zYd _ _) (by kernel_rfl) ⟨hL.jb,(hL.ab v hv).1,trivial⟩ ?_;refine vA<|zAh [0,1,7,8,24] [(4,bD Ab)] ?_;refine zG<|zT (True) [Al<|A3 Ab] (.inr rfl) ?_;exact⟨by kernel_rfl,fin J.its J.s rfl⟩
 rw[decide_eq_false h]at hon;rw[hon,if_neg (by decide)];have hk:=keyNo_g (zTm (S:=S) hL (zW3 hm)) (Nat.le_of_not_lt h);refine zS (Tj_ok L.N []) mixed Tryz.func130 rfl Tj_keep<|vA<|zAh [] [(4,bD Ac)] ?_;refine vA<|zX 2 [] [] ((0:Int)<=(0:Int)/\(0:Int)<(Aa (Lay.ix L v):Int)) [(13,Ag (Lay.ab L v) 0 (Aa<|Lay.ix L v) (Aa<|Lay.ix L v) Ab),(14,Ae (Lay.ab L v) 0)] ?_;refine zAs (Ai (Af (λ(i:Nat)=>Ae (Lay.ib L i) 0)<|Lay.ix L v) 188 1 Ab Ac AM) (Lay.ab L v) (Ay 1<|Aa<|Ak 0<|Af (λ(i:Nat)=>Ae (Lay.ib L i) 0)<|Lay.ix L v) (AG (Ak 0<|Af (λ(i:Nat)=>Ae (Lay.ib L i) 0)<|Lay.ix L v) Uk) hla (by(simp;omega)) ?_;refine zAi [] [] [AG (Ak 0<|Af (λ(i:Nat)=>Ae (Lay.ib L i) 0)<|Lay.ix L v) Uk] [Ae (Lay.ib L<|AK (Lay.ix L v) 0 0) 0] (BF (by simp(disch:=omega) only[AY,hix])) (by exact hk) ?_;refine zX 3 [] [] (0<2/\1<2) [(12,D.tup [An [iD 0,iD 0,Al<|Ap<|bs []],bD Ac]),(17,An [iD 0,iD 0,Al<|Ap<|bs []]),(18,bD Ac)] ?_;refine zBm (Lay.N L) (True) (Ai [iD 0,iD 0,q4_] 107 0 Ac Ac Aj) (Ae 0 0) (zBd (L:=L) (S:=S)) ?_;refine zCh (Ai [iD 0,iD 0,q4_] 107 0 Ac Ac Aj) (Lay.N L) (Ac=Ac/\Ab=Ab/\3=3/\3<=3) (Ai [iD 0,iD 0,Al<|Ap<|bs []] 107 0 Ac Ac Aj) (zA5<|zBd (L:=L) (S:=S)) ⟨(by kernel_rfl),⟨(by kernel_rfl),(by omega)⟩⟩ ?_;rw[zFx zBd];refine zAh [12,13,14,15,16,17,18] [(6,bD Ac)] ?_;refine zA<|vA<|zBa 2 [(19,bD Ac),(20,bD Ab)] ?_;refine zAn ?_ (by kernel_rfl);refine zC<|zM9 [5,13,14,15,16] (L.jb<L.N/\L.ab v<L.N/\True) zBd (zPw hL) (zYd _ _) (by kernel_rfl) ⟨hL.jb,(hL.ab v hv).1,trivial⟩ ?_;refine vt<|vA<|zAh [6,19,20] [] ?_;refine zG<|zE<|zT (True) [Al<|A3 Ac] (.inr rfl) ?_;exact⟨by kernel_rfl,rfl⟩
end
variable{f:FuncId}{args:List D}{ch:List Nat}{x:List Va×List Nat}
section
open Go.RowKit
abbrev vaA(l:List Va):Bk:=⟨zM l,107,3,Ab,Ac, .plain⟩
abbrev inA(l:List Nat):Bk:=⟨l.map λc=>iD (c:Nat),3,1,Ab,Ac, .plain⟩
abbrev lvP(o:Nat)(t:Tri)(l:Nat):List D:=[.osl (o+2*l) 0 (vls t l).length ((vls t l).length*3) Ab, .osl (o+2*l+1) 0 (fst' t l).length (fst' t l).length Ab]
def lvCs(o:Nat)(t:Tri):List D:=(Aw t.length).flatMap (lvP o t)
abbrev lvB(o:Nat)(t:Tri):Bk:=⟨lvCs o t,243,2,Ab,Ac, .sh⟩
def tblk(m o:Nat)(base:Nat->Bk)(t:Tri)(k:Nat):Bk:=if k=m then lvB o t else if k<o then base k else if(k-o)%2=0 then vaA (vls t ((k-o)/2))else inA (fst' t ((k-o)/2))
def tlay(m o:Nat)(base:Nat->Bk)(t:Tri):List Bk:=(Aw (o+2*t.length)).map (tblk m o base t)
section
variable{m o:Nat}{base:Nat->Bk}{t:Tri}
theorem zCo:(tlay m o base t).length=o+2*t.length:=by simp[tlay]
theorem zEe(h:k<o+2*t.length):(tlay m o base t)[k]?=Ah (tblk m o base t k):=by simp[tlay,h]
theorem tl_m(h:m<o):(tlay m o base t)[m]?=Ah (lvB o t):=by grind [zEe,tblk]
theorem tl_v(hm:m<o)(h:l<t.length):(tlay m o base t)[o+2*l]?=Ah (vaA (vls t l)):=by
 grind [zEe,tblk]
theorem tl_f(hm:m<o)(h:l<t.length):(tlay m o base t)[o+2*l+1]?=Ah (inA (fst' t l)):=by
 grind [zEe,tblk]
theorem lvP_len(l:Nat):(lvP o t l).length=2:=rfl
theorem zRn:(lvCs o t).length=t.length*2:=by
 unfold lvCs;rw[zHx (c:=2) lvP_len];simp
theorem lv_at(h:l<t.length):(lvCs o t).drop (l*2)=lvP o t l++((Aw t.length).drop (l+1)).flatMap (lvP o t):=by
 unfold lvCs;rw[zQ0 lvP_len (Aw t.length) l (by simpa using h)];grind
theorem lv_hd(h:l<t.length):((lvCs o t).drop (l*2)).headD .unk= .osl (o+2*l) 0 (vls t l).length ((vls t l).length*3) true:=by rw[lv_at h];rfl
theorem lv_hd1(h:l<t.length):((lvCs o t).drop (l*2+1)).headD .unk= .osl (o+2*l+1) 0 (fst' t l).length (fst' t l).length true:=by
 rw[<-List.drop_drop,lv_at h];rfl
def Bss(o:Nat)(base:Nat->Bk):Prop:=∀k,k<o->namB o (base k)
theorem zWz{o:Nat}(h:namB o b)(hk:o<=k):zAu k b=b:=by
 unfold zAu;rcases h with h|h
 ·rw[if_pos h]
 split
 ·rfl
 rename_i hn;have hl:b.cells.map (zAq k)=b.cells:=by
  have:=h k hk
  have key:∀cs:List D,zAt k cs=Ac->cs.map (zAq k)=cs:=by
   intro cs;induction cs with
   |nil=>exact λ_=>rfl
   |cons d cs ih=>
    simp_all [only,zAt,Bool.or_eq_false_iff,BE,zAq]
  exact key _ this
 rw[hl]
theorem zJa(h:b.nob=Ab):zAu k b=b:=by grind [zAu]
theorem tl_mk(hm:m<o)(k:Nat):((tlay m o base t).map (zAu k))[m]?=Ah ⟨(lvCs o t).map (zAq k),243,2,Ab,Ac, .sh⟩:=by
 rw[BG,tl_m hm];rfl
theorem zMp(i:Nat):(lvCs o t)[i]?=if i<t.length*2 then(if i%2=0 then Ah (.osl (o+2*(i/2)) 0 (vls t (i/2)).length ((vls t (i/2)).length*3) Ab)else Ah (.osl (o+2*(i/2)+1) 0 (fst' t (i/2)).length (fst' t (i/2)).length Ab))else none:=by
 split
 ·rename_i h;have h2:=lv_at (o:=o) (t:=t) (l:=i/2) (by omega);have h3:(lvCs o t)[i]?=((lvCs o t).drop (i/2*2))[i%2]?:=by
   grind
  grind
 grind [Bf,zRn]
theorem zYi{l':Nat}(h:l<t.length):(t.set l x).getD l' Ad=if l'=l then x else t.getD l' default:=by
 grind
theorem tl_app(hm:m<o)(hb:Bss o base){t':Tri}(k c:Nat)(b':Bk)(d:D)(ht:t'.length=t.length)(hk:o<=k)(hc:c<t.length*2)(hkc:k=o+c)(hb':tblk m o base t' k=b')(hd:(lvCs o t')[c]?=Ah d)(ho:∀i,i≠c->(lvCs o t')[i]?=(lvCs o t)[i]?)(hoo:∀j,j≠k->j≠m->tblk m o base t' j=tblk m o base t j):
  ((((tlay m o base t).map (zAu k)).set k b').set m ⟨((lvCs o t).map (zAq k)).set c d,243,2,Ab,Ac, .sh⟩)=tlay m o base t':=by
 subst hkc;apply A2;intro j;rw[BT,AO,AV,zCo];split
 ·rename_i e;subst e;rw[if_pos (by omega),tl_m hm];congr 2;apply A2;intro i;rw[BT,AV,zRn];split
  ·grind
  rename_i e;rw[ho i (Ne.symm e),BG,zMp];split
  ·split
   ·simp only[BU,BH.injEq];unfold zAq;rw[show refs (o+c) (.osl (o+2*(i/2)) 0 (vls t (i/2)).length ((vls t (i/2)).length*3) Ab)=Ac by simp only[refs,beq_eq_false_iff_ne];omega];rfl
   simp only[BU,BH.injEq];unfold zAq;rw[show refs (o+c) (.osl (o+2*(i/2)+1) 0 (fst' t (i/2)).length (fst' t (i/2)).length Ab)=Ac by simp only[refs,beq_eq_false_iff_ne];omega];rfl
  rfl
 rename_i e;rw[BT,AV,zCo];split
 ·grind [zEe]
 rename_i e2;rw[BG];rcases Ax j (o+2*t.length)with hj|hj
 ·rw[zEe hj,zEe (by omega),hoo j (Ne.symm e2) (Ne.symm e)];simp only[BU,BH.injEq];unfold tblk;rw[if_neg (Ne.symm e)];split
  ·rename_i h;exact zWz (hb j h) (by omega)
  split<;>exact zJa rfl
 grind [Bf,zCo]
theorem tl_appv(hm:m<o)(hb:Bss o base)(h:l<t.length)(ws:List Va):((((tlay m o base t).map (zAu (o+2*l))).set (o+2*l) (vaA ws)).set m ⟨((lvCs o t).map (zAq (o+2*l))).set (l*2) (.osl (o+2*l) 0 ws.length (ws.length*3) Ab),243,2,Ab,Ac, .sh⟩)=tlay m o base (t.set l (ws,fst' t l)):=by
 have hv:=λl'=>zYi (l':=l') (x:=(ws,fst' t l)) h;refine tl_app hm hb _ _ _ _ (by simp) (by omega) (by omega) (by omega) ?_ ?_ (λi hi=>?_) (λj hj hjm=>?_)
 ·unfold tblk;grind
 ·simp_all [zMp,AO,vls]
 ·rw[zMp,zMp,AO];grind
 unfold tblk;grind
theorem tl_appf(hm:m<o)(hb:Bss o base)(h:l<t.length)(fs:List Nat):((((tlay m o base t).map (zAu (o+2*l+1))).set (o+2*l+1) (inA fs)).set m ⟨((lvCs o t).map (zAq (o+2*l+1))).set (l*2+1) (.osl (o+2*l+1) 0 fs.length fs.length Ab),243,2,Ab,Ac, .sh⟩)=tlay m o base (t.set l (vls t l,fs)):=by
 have hv:=λl'=>zYi (l':=l') (x:=(vls t l,fs)) h;refine tl_app hm hb _ _ _ _ (by simp) (by omega) (by omega) (by omega) ?_ ?_ (λi hi=>?_) (λj hj hjm=>?_)
 ·unfold tblk;grind
 ·rw[zMp,AO,if_pos (by omega),if_neg (by omega),show(l*2+1)/2=l by omega,show o+2*l+1=o+2*l+1 from rfl];unfold fst';rw[hv,if_pos rfl]
 ·rw[zMp,zMp,AO];grind
 unfold tblk;grind
theorem tl_appv1(hm:m<o)(hb:Bss o base)(h:l<t.length)(v:Va):((((tlay m o base t).map (zAu (o+2*l))).set (o+2*l) ⟨zM (vls t l)++vaC v,107,3,Ab,Ac, .plain⟩).set m ⟨((lvCs o t).map (zAq (o+2*l))).set (l*2) (.osl (o+2*l) 0 ((vls t l).length+1) (((vls t l).length+1)*3) Ab),243,2,Ab,Ac, .sh⟩)=tlay m o base (t.set l (vls t l++[v],fst' t l)):=by
 have h1:=tl_appv (base:=base) hm hb h (vls t l++[v]);have e:vaA (vls t l++[v])=⟨zM (vls t l)++vaC v,107,3,Ab,Ac, .plain⟩:=by
  unfold vaA;rw[zR5];simp[zM]
 rw[e,AE]at h1;exact h1
theorem tl_appf1(hm:m<o)(hb:Bss o base)(h:l<t.length)(c:Nat):((((tlay m o base t).map (zAu (o+2*l+1))).set (o+2*l+1) ⟨((fst' t l).map λc=>iD (c:Nat))++[iD (c:Nat)],3,1,Ab,Ac, .plain⟩).set m ⟨((lvCs o t).map (zAq (o+2*l+1))).set (l*2+1) (.osl (o+2*l+1) 0 ((fst' t l).length+1) ((fst' t l).length+1) Ab),243,2,Ab,Ac, .sh⟩)=tlay m o base (t.set l (vls t l,fst' t l++[c])):=by
 have h1:=tl_appf (base:=base) hm hb h (fst' t l++[c]);grind
theorem kst{T B:Bk}(hk:k<o+2*t.length)(hT:zAu k T=T)(hB:zAu k B=B):((tlay m o base t++[T]++[B]).map (zAu k)).set k b'=((tlay m o base t).map (zAu k)).set k b'++[T]++[B]:=by
 grind [List.set_append_left,zCo]
theorem ks_m(hm:m<o)(hk:k≠m):(((tlay m o base t).map (zAu k)).set k b')[m]?=Ah ⟨(lvCs o t).map (zAq k),243,2,Ab,Ac, .sh⟩:=by
 grind [BR,tl_mk]
theorem zGc:(((tlay m o base t).map (zAu k)).set k b').length=o+2*t.length:=by
 rw[AO,AV,zCo]
theorem zVo(hb:Bss o base):∀b∈tlay m o base t,namB (o+2*t.length) b:=λb h=>by
 obtain⟨k,hk,rfl⟩:=Bn.1 h;have hk:=AX.1 hk;unfold tblk;split
 ·refine .inr λj hj=>?_;refine zDj _ λi hi=>?_;have key:∀(ls:List Nat),(∀l∈ls,l<t.length)->∀i∈ownL (ls.flatMap (lvP o t)),i<o+2*t.length:=by
   intro ls;induction ls with
   |nil=>intro _ i hi;simp[ownL]at hi
   |cons l ls ih=>
    intro h i hi
    have:=h l (by simp)
    simp only[List.flatMap_cons,lvP,Br,BV,ownL,ownN,List.singleton_append,Bc]at hi;rcases hi with rfl|rfl|hi
    ·omega
    ·omega
    exact ih (λl hl=>h l (by simp[hl])) i hi
  have:=key (Aw t.length) (λl hl=>AX.1 hl) i hi
  omega
 split
 ·rename_i h;exact(hb k h).imp id λh j hj=>h j (by omega)
 split<;>exact .inl rfl
end
theorem Acts.tail{s:List Bk}{x:D}(h:Acts P f args st ch x (s++bs))(hl:s.length=N)(hm:st.length<=N)(hn:∀b∈s,namB N b)(hx:∀j,N<=j->refs j x=Ac):Acts P f args st ch x s:=by
 subst hl
 have:=h.cut s.length hm (by
  unfold zF8;simp only[A9,AX,Bq,BC,A4];intro i hi;refine⟨by simp only[zAt,hx _ (Nat.le_add_right _ _),Bp],λe he=>?_⟩;rw[BD rfl]at he;exact(hn e he).imp id λh=>h _ (by omega))
 grind
end
def stA(x:List Va)(t:Tri)(l:Nat):Tri:=t.set l (vls t l++[x.getD l Ad],fst' t l++[(vls t (l+1)).length])
def stF(t:Tri)(l:Nat):Tri:=t.set l (vls t l,fst' t l++[(vls t (l+1)).length])
theorem stA_cons(v:Va)(x:List Va)(h:List Va×List Nat)(t:Tri)(k:Nat):stA (v::x) (h::t) (k+1)=h::stA x t k:=rfl
theorem stF_cons(h:List Va×List Nat)(t:Tri)(k:Nat):stF (h::t) (k+1)=h::stF t k:=rfl
theorem zL6(v:Va)(x:List Va)(h:List Va×List Nat):∀(n k:Nat)(t:Tri),(AJ (k+1) n).foldl (stA (v::x)) (h::t)=h::(AJ k n).foldl (stA x) t
 |0,k,t=>rfl
 |n+1,k,t=>by
  rw[Bs,Bs,A6,A6,stA_cons,zL6 v x h n (k+1)]
theorem zRu(h:List Va×List Nat):∀(n k:Nat)(t:Tri),(AJ (k+1) n).foldl stF (h::t)=h::(AJ k n).foldl stF t
 |0,k,t=>rfl
 |n+1,k,t=>by
  rw[Bs,Bs,A6,A6,stF_cons,zRu h n (k+1)]
theorem zYk(t:Tri):szT t=(vls t 0).length:=by cases t<;>rfl
theorem foldA:∀(f:Nat)(x:List Va)(t:Tri),x.length=t.length->(AJ f (t.length-f)).foldl (stA x) t=adT x f t
 |0,[],[],_=>rfl
 |f+1,[],[],_=>by simp[adT]
 |_,_::_,[],h=>by simp at h
 |_,[],_::_,h=>by simp at h
 |0,v::x,l::t,h=>by
  rw[AU,Nat.sub_zero,Bs,A6];have e:stA (v::x) (l::t) 0=(l.1++[v],l.2++[szT t])::t:=by rw[zYk];rfl
  rw[e,zL6]
  have:=foldA 0 x t (by simpa using h)
  rw[Nat.sub_zero]at this;rw[this];rfl
 |f+1,v::x,l::t,h=>by
  rw[AU,show t.length+1-(f+1)=t.length-f by omega,zL6,foldA f x t (by simpa using h)];rfl
theorem foldF:∀(t:Tri),(AJ 0 t.length).foldl stF t=finT t
 |[]=>rfl
 |l::t=>by
  rw[AU,Bs,A6];have e:stF (l::t) 0=(l.1,l.2++[szT t])::t:=by rw[zYk];rfl
  rw[e,zRu,foldF t];rfl
theorem stA_len(x:List Va)(t:Tri)(l:Nat):(stA x t l).length=t.length:=by simp[stA]
theorem zYo(t:Tri)(l:Nat):(stF t l).length=t.length:=by simp[stF]
theorem zXd(x:List Va):∀(ls:List Nat)(t:Tri),(ls.foldl (stA x) t).length=t.length
 |[],t=>rfl
 |l::ls,t=>by rw[A6,zXd x ls,stA_len]
theorem zXc:∀(ls:List Nat)(t:Tri),(ls.foldl stF t).length=t.length
 |[],t=>rfl
 |l::ls,t=>by rw[A6,zXc ls,zYo]
def SzT(B:Nat)(t:Tri):Prop:=∀k,(vls t k).length<=B/\(fst' t k).length<=B/\∀c∈fst' t k,c<=B
theorem zW9:(t.set l x).getD k Ad=if k=l/\l<t.length then x else t.getD k default:=by
 grind
variable{B:Nat}
theorem stA_sz{x:List Va}(h:SzT B t):SzT (B+1) (stA x t l):=λk=>by
 unfold stA vls fst';rw[zW9];split
 ·refine⟨by rw[AE];exact BW (h l).1,by rw[AE];exact BW (h l).2.1,λc hc=>?_⟩;rcases Bi.1 hc with hc|hc
  ·have:=(h l).2.2 c hc;omega
  rw[Bd.1 hc];have:=(h (l+1)).1;exact Av this (AI _)
 exact⟨Av (h k).1 (AI _),Av (h k).2.1 (AI _),λc hc=>Av ((h k).2.2 c hc) (AI _)⟩
variable{o:Nat}{base:Nat->Bk}
section
open Go.RowKit
attribute [local irreducible] seqW awp zY zZ zR Weak updS zAe retL Pure Acts rP setP setQ cP nP fr
set_option maxRecDepth 4096
def Tt(o:Nat):Par:=⟨λf=>f==128||f==126,λ_ _=>AA,λk=>decide (k<o),λ_=>Ac,λt=>t==243⟩
theorem Tt_ok(o:Nat):zBg Am (Tt o):=by intro t n f h;cases h
def Tsa(N:Nat):Par:=⟨λ_=>Ac,λ_ _=>AA,λk=>decide (k<N),λ_=>Ac,λt=>t==243⟩
theorem Tsa_ok(N:Nat):zBg Am (Tsa N):=by intro t n f h;cases h
abbrev tvB(m n:Nat):Bk:=⟨[.osl m 0 n (n*2) Ab],185,0,Ac,Ac, .plain⟩
theorem size_g(hst:st[m]?=Ah (lvB o t))(hn:∀b∈st,namB st.length b)(l:Nat)(hb:t.length<=1000000):Acts Am 128 [.agg [.osl m 0 t.length (t.length*2) Ab],iD (l:Nat)] st [] (iD ((vls t l).length:Nat)) st:=by
 have key:∀b,Acts Am 128 [.agg [.osl m 0 t.length (t.length*2) Ab],iD (l:Nat)] st [] (iD ((vls t l).length:Nat)) (st++[b])->Acts Am 128 [.agg [.osl m 0 t.length (t.length*2) Ab],iD (l:Nat)] st [] (iD ((vls t l).length:Nat)) st:=λb h=>by
  have:=h.cut st.length (Au _) (by
   unfold zF8;simp only[A9,AX,Bq,BC,A4];intro i hi;refine⟨rfl,λe he=>?_⟩;rw[BD rfl]at he;exact(hn e he).imp id λh=>h _ (by omega))
  grind
 refine key (tvB m t.length) ?_;have hl1:(st++[tvB m t.length])[st.length]?=Ah (tvB m t.length):=zA5 rfl;refine zS (Tsa_ok st.length) mixed Tryz.func128 rfl (by intro k hk;show decide (k<st.length)=Ab;rw[decide_eq_true_eq];exact hk) ?_;rcases Ax l t.length with h|h
 ·have hhd:=lv_hd (o:=o) h;have hll:=zRn (o:=o) (t:=t);refine vA<|zBm (Aa st) (True) (Ai [Ag m 0 (Aa t) (Aa t*2) Ab] 185 0 Ac Ac Aj) (Ae 0 0) (rfl:st.length=st.length) ?_;refine zAh [0] [(4,iD 0)] ?_;refine zA<|vA<|zBa 2 [(5,iD l),(6,Ae (Aa st) 0)] ?_;refine zAs (Ai [Ag m 0 (Aa t) (Aa t*2) Ab] 185 0 Ac Ac Aj) (Aa st) (Ay 1 1) (Ag m 0 (Aa t) (Aa t*2) Ab) hl1 (by simp) ?_;refine zAh [5,6,7,8] [(9,bD<|decide ((l:Int)>=(Aa t:Int)))] ?_;refine vF ((l:Int)>=(Aa t:Int))<|vK<|vA<|zBa 1 [(10,Ae (Aa st) 0)] ?_;refine zAs (Ai [Ag m 0 (Aa t) (Aa t*2) Ab] 185 0 Ac Ac Aj) (Aa st) (Ay 1 1) (Ag m 0 (Aa t) (Aa t*2) Ab) hl1 (by simp) ?_;refine zX 2 [] [] ((0:Int)<=(l:Int)/\(l:Int)<↑(Aa t)) [(12,iD l),(13,Ae m (0+Ao (l:Int)*2))] ?_;refine zAp 13 (Ae m (0+Ao (l:Int)*2)) (Ae m (l*2)) (by simp(disch:=omega) only[AS,AT]) ?_;refine zBa 1 [(14,Ae m (l*2))] ?_;refine zAs (Ai (lvCs o t) 243 2 Ab Ac AM) (m) (Ay 1<|Aa<|Ak (l*2)<|lvCs o t) (AG (Ak (l*2)<|lvCs o t) Uk) (zBi hst) (by(simp;omega)) ?_;rw[hhd];refine zAh [1,2,9,10,11,12,13,14,15,16] [(4,iD (Aa (vls t l):Int))] ?_;refine zG<|zT (True) [Al<|AQ AR (Aa (vls t l):Int)] (.inr rfl) ?_;exact⟨by kernel_rfl,rfl⟩
 have e:vls t l=[]:=by unfold vls;rw[AN,Bf h];rfl
 rw[e];refine vA<|zBm (Aa st) (True) (Ai [Ag m 0 (Aa t) (Aa t*2) Ab] 185 0 Ac Ac Aj) (Ae 0 0) (rfl:st.length=st.length) ?_;refine zAh [0] [(4,iD 0)] ?_;refine zA<|vA<|zBa 2 [(5,iD l),(6,Ae (Aa st) 0)] ?_;refine zAs (Ai [Ag m 0 (Aa t) (Aa t*2) Ab] 185 0 Ac Ac Aj) (Aa st) (Ay 1 1) (Ag m 0 (Aa t) (Aa t*2) Ab) hl1 (by simp) ?_;refine zAh [5,6,7,8] [(9,bD<|decide ((l:Int)>=(Aa t:Int)))] ?_;refine vT ((l:Int)>=(Aa t:Int))<|vA<|zAh [9] [] ?_;refine zG<|zE<|zT (True) [q2_] (.inr rfl) ?_;exact⟨by kernel_rfl,rfl⟩
abbrev adN(x:List Va)(f l:Nat)(t:Tri):Tri:=(AJ f (l-f)).foldl (stA x) t
theorem adN_succ(x:List Va)(f l:Nat)(t:Tri)(h:f<=l):adN x f (l+1) t=stA x (adN x f l t) l:=by
 unfold adN;rw[show l+1-f=(l-f)+1 by omega,List.range'_concat,BX];grind
theorem zYj(h:m≠k):zAu k (tvB m n)=tvB m n:=by
 simp_all [zAu,tvB,Bm,zAq,refs]
abbrev q5_(x0:Nat)(x1:List Va):=An (AH 3 (Ak (x0*3) (zM x1)))
theorem add_k(hm:m<o)(hbs:Bss o base)(x:List Va)(t:Tri)(f:Nat)(hx:x.length=t.length)(hf:f<=t.length)(h32:t.length<=1000)(ho:o<=1000)(B:Nat)(hB:B+t.length<=1000000)(hS:SzT B t)(ch:List Nat)(hch:∀k,k<o+2*t.length->k<o\/k∈ch):
  Acts Am 126 [.agg [.osl m 0 t.length (t.length*2) Ab],rowV x,iD (f:Nat)] (tlay m o base t) ch (.tup []) (tlay m o base (adT x f t)++[tvB m t.length]):=by
 have hlen:∀l,(adN x f l t).length=t.length:=λl=>zXd x _ t;refine zA1 (Tt_ok o) mixed Tryz.func126 rfl (λk hk=>by
  rw[zCo]at hk;refine(hch k hk).imp (λh=>?_) id;show decide (k<o)=Ab;rw[decide_eq_true h]) ?_
 refine vA<|zBm (o+2*Aa t) (True) (Ai [Ag m 0 (Aa t) (Aa t*2) Ab] 185 0 Ac Ac Aj) (Ae 0 0) (zCo (m:=m) (o:=o) (base:=base) (t:=t)) ?_;refine zAh [0] [] ?_;refine vA<|zAh [2,7] [(6,iD f)] ?_;refine zF<|zN (λ(l:Nat)=>fr 48 [(1,rowV x),(3,Ae (o+2*Aa t) 0),(6,iD l)]) (λ(l:Nat)=>tlay m o base (adN x f l t)++[tvB m t.length]) (λ(l:Nat)=>t.length-l) (λ(l:Nat)=>f<=l/\l<=t.length/\SzT (B+l) (adN x f l t)) f ?_ ?_ ?_
 ·refine⟨Au _,hf,?_⟩;rw[show adN x f f t=t by unfold adN;rw[BN];rfl];exact λk=>⟨by have:=(hS k).1;omega,by have:=(hS k).2.1;omega,λc hc=>by have:=(hS k).2.2 c hc;omega⟩
 ·rw[show adN x f f t=t by unfold adN;rw[BN];rfl];refine vkp [1,3,6]
 rintro l ⟨c1,c2,c3⟩;rcases Ax l t.length with hl|hl
 ·have hsu:=adN_succ x f l t c1;have hln:=hlen l;have hsz:=c3;have hx1:=zCu x l (by omega);have hnx:=zF1 x;have hlx:3<=((zM x).drop (l*3)).length:=zEd _ _;generalize adN x f l t=u at*;have hul:l<u.length:=by omega
  have hhd:=lv_hd (o:=o) hul;have hll:=zRn (o:=o) (t:=u);have htB:(tlay m o base u++[tvB m t.length])[o+2*t.length]?=Ah (tvB m t.length):=zA5 (by rw[zCo,hln]);have hl2:(tlay m o base u++[tvB m t.length]).length=o+2*t.length+1:=by rw[AE,zCo,hln];rfl
  obtain⟨v,hvv⟩:∃v,v=x.getD l default:=⟨_,rfl⟩;rw[<-hvv]at hx1;have hcl:=zB6 (vls u l);have hvl:=(hsz l).1;have hfl:=(hsz l).2.1;refine zA<|vA<|zAh [8,9,10] [(11,bD<|decide ((l:Int)<↑(Aa x)))] ?_;refine vT ((l:Int)<↑(Aa x))<|vKB<|zA<|zDc [0,2,3,5,9,10,11,1,4,6,7,8,12,13] [(14,[(1,100000)],[15,16,17])] rfl ?_;refine zX 7 [] [] (True/\True/\ix ↑l ↑(Aa x) (zM x≠[])) [(14,Ae (o+2*Aa t) 0),(16,iD l),(17,Ae (o+2*Aa t) 0),(19,iD l),(23,(q3_ x)),(24,iD l),(25,D.ptr<|Ak (l*3)<|zM x)] ?_ (hc:=⟨trivial,trivial,⟨(by omega),⟨(by omega),(by assumption)⟩⟩⟩);refine zAs (Ai [Ag m 0 (Aa t) (Aa t*2) Ab] 185 0 Ac Ac Aj) (o+2*Aa t) (Ay 1 1) (Ag m 0 (Aa t) (Aa t*2) Ab) htB (by simp) ?_;refine zAs (Ai [Ag m 0 (Aa t) (Aa t*2) Ab] 185 0 Ac Ac Aj) (o+2*Aa t) (Ay 1 1) (Ag m 0 (Aa t) (Aa t*2) Ab) htB (by simp) ?_;refine zX 1 [] [] ((0:Int)<=(l:Int)/\(l:Int)<↑(Aa t)) [(20,Ae m (0+Ao (l:Int)*2))] ?_;refine zAp 20 (Ae m (0+Ao (l:Int)*2)) (Ae m (l*2)) (by simp(disch:=omega) only[AS,AT]) ?_;refine zBa 1 [(21,Ae m (l*2))] ?_;refine zAs (Ai (lvCs o u) 243 2 Ab Ac AM) (m) (Ay 1<|Aa<|Ak (l*2)<|lvCs o u) (AG (Ak (l*2)<|lvCs o u) Uk) (zBi<|tl_m hm) (by(simp;omega)) ?_;rw[hhd];refine zX 1 [] [] (3<=Aa (Ak (l*3)<|zM x)) [(26,(q5_ l x))] ?_;refine zAp 26 (An<|AH 3<|Ak (l*3)<|zM x) (An<|vaC v) (by simp(disch:=omega) only[hx1]) ?_;refine zBm (o+2*Aa t+1) ((3=3/\3<=3/\True)/\0<3/\3=3/\3<=16777216/\1<=9223372036854775807) (Ai [iD<|Aq v,iD<|Ar v,Al<|Ap<|bs<|As v] 107 3 Ab Ac Aj) (Ag 0 0 1 3 Ab) hl2 ?_ (hp:=⟨⟨(by kernel_rfl),⟨(by omega),trivial⟩⟩,(by omega)⟩);refine zAn ?_ (by kernel_rfl);refine zFt rfl rfl (zFp<|λx hx=>by rw[AE,hl2];simp at hx;subst hx;show _+1<=100000;omega) ?_;refine zSn (Ai (zM<|vls u l) 107 3 Ab Ac Aj) (Ai [iD<|Aq v,iD<|Ar v,Al<|Ap<|bs<|As v] 107 3 Ab Ac Aj) 22 (o+2*l) (o+2*Aa t+1) (Ab=Ab/\Aa (zM<|vls u l)=Aa (vls u l)*3/\Aa (vls u l)*3=Aa (vls u l)*3/\107=107/\3=3/\3=3/\0<3/\0<32/\107=107/\(Aa (vls u l)+1)*32<=140737488355328/\3=3/\Kd.isMap Aj=Ac/\(zCq Am (Tt o) 109=Ac\/Kd.isSh Aj=Ab)) (o+2*Aa t≠o+2*l/\o+2*Aa t≠o+2*l/\m≠o+2*l/\o+2*Aa t≠o+2*l/\m≠o+2*l/\m≠o+2*l/\m≠o+2*l/\o+2*Aa t+1≠o+2*l/\True) (Ai (zM (vls u l)++[iD<|Aq v,iD<|Ar v,Al<|Ap<|bs<|As v]) 107 3 Ab Ac Aj) (Ag (o+2*l) 0 (Aa (vls u l)+1) ((Aa (vls u l)+1)*3) Ab) (by kernel_rfl) (zBi<|zBi<|tl_v hm hul) (zA5 hl2) ?_ (by kernel_rfl) ⟨(by omega),⟨(by omega),⟨(by omega),⟨(by omega),⟨(by omega),⟨(by omega),⟨(by omega),⟨(by omega),trivial⟩⟩⟩⟩⟩⟩⟩⟩ ?_ ?_
  ·exact⟨rfl,hcl,rfl,rfl,rfl,rfl,by decide,by decide,rfl,by omega,rfl,rfl, .inl (by kernel_rfl)⟩
  ·exact decide_eq_false (by omega)
  rw[kst (t:=u) (k:=o+2*l) (by omega) (zYj (by omega)) (zJa rfl)];refine zAn ?_ (by kernel_rfl);refine zFg (by rw[AE,hl2,AE,AE,zGc,hln];exact Au _) (zE5 1 100000 (tvB m t.length) (o+2*t.length) (0<1) (.osl m 0 t.length (t.length*2) Ab) (by kernel_rfl) (by rw[zFe (by rw[AE,AE,zGc,hln];show _+1+1<=100000;omega)];exact zBi (zA5 (by rw[zGc,hln]))) (by decide) (by kernel_rfl)) ?_;refine zX 1 [] [] ((0:Int)<=(l:Int)/\(l:Int)<↑(Aa t)) [(29,Ae m (0+Ao (l:Int)*2))] ?_;refine zAp 29 (Ae m (0+Ao (l:Int)*2)) (Ae m (l*2)) (by simp(disch:=omega) only[AS,AT]) ?_;refine zBa 1 [(30,Ae m (l*2))] ?_;refine zCh (Ai (Af (zAq (o+2*l))<|lvCs o u) 243 2 Ab Ac AM) (m) (Ac=Ac/\Ab=Ab/\1=1/\l*2+1<=Aa (Af (zAq (o+2*l))<|lvCs o u)) (Ai (setAt (Af (zAq (o+2*l))<|lvCs o u) (l*2)<|cellsOf<|Ag (o+2*l) 0 (Aa (vls u l)+1) ((Aa (vls u l)+1)*3) Ab) 243 2 Ab Ac AM) (zBi<|zBi<|ks_m hm (by omega:o+2*l≠m)) ⟨(by kernel_rfl),⟨(by kernel_rfl),⟨(by kernel_rfl),(by(simp;omega))⟩⟩⟩ ?_;have hA:=tl_appv1 (base:=base) hm hbs hul v;refine zJq (tlay m o base (u.set l (vls u l++[v],fst' u l))++[tvB m t.length]++[⟨vaC v,107,3,Ab,Ac,.plain⟩]) ?_ ?_
  ·rw[zB7 (by rw[AE,zGc];omega),zB7 (by rw[zGc];omega)];exact congrArg (λs=>s++[tvB m t.length]++[_]) hA
  refine zAn ?_ (by kernel_rfl);refine zFh<|zC ?_;obtain⟨u2,hu2⟩:∃u2,u2=u.set l (vls u l++[v],fst' u l):=⟨_,rfl⟩;rw[<-hu2];have hln2:u2.length=t.length:=by rw[hu2,AO,hln]
  have hul2:l<u2.length:=by omega
  have hv2:∀k,vls u2 k=if k=l then vls u l++[v]else vls u k:=λk=>by
   grind
  have hf2:fst' u2 l=fst' u l:=by unfold fst';rw[hu2,zYi hul,if_pos rfl]
  have hnm:∀b∈tlay m o base u2++[tvB m t.length],namB (o+2*t.length+1) b:=λb hb=>by
   rcases Bi.1 hb with hb|hb
   ·have:=zVo hbs b hb
    rw[hln2]at this;exact this.imp id λh j hj=>h j (by omega)
   rw[Bd.1 hb];exact .inr λj hj=>by simp only[zAt,refs,Bp,beq_eq_false_iff_ne];omega
  have hl3:(tlay m o base u2++[tvB m t.length]).length=o+2*t.length+1:=by rw[AE,zCo,hln2];rfl
  have hkp:∀k,o+2*t.length+1<=k->(Tt o).keep k=false:=λk hk=>decide_eq_false (by omega);refine zHo (AJ 7 41) ([Uk,rowV x,Uk,.own (o+2*t.length) 0,Uk,Uk,iD (l:Nat)]++AF 41 Uk) (o+2*t.length<o+2*t.length+1/\True) hl3 hnm hkp (by kernel_rfl) (by kernel_rfl) ⟨by omega,trivial⟩ ?_;have hsz2:=size_g (m:=m) (o:=o) (t:=u2) (st:=tlay m o base u2++[tvB m t.length]) (zBi (tl_m hm)) (λb hb=>by rw[hl3];exact hnm b hb) (l+1) (by omega);rw[hln2]at hsz2;have hvv2:vls u2 (l+1)=vls u (l+1):=by rw[hv2,if_neg (by omega)]
  rw[hvv2]at hsz2;have htB2:(tlay m o base u2++[tvB m t.length])[o+2*t.length]?=Ah (tvB m t.length):=zA5 (by rw[zCo,hln2]);have hhd2:=lv_hd1 (o:=o) hul2;rw[hf2]at hhd2;have hll2:=zRn (o:=o) (t:=u2);refine zDc [0,2,3,5,10,11,1,4,6,7,8,9] [(12,[(1,100000),(4,100000),(6,100000),(7,100000),(8,100000)],[13]),(14,[(1,100000)],[15,16,17])] rfl ?_;refine zX 6 [] [] (True/\True/\i6 (↑l+1)) [(31,Ae (o+2*Aa t) 0),(33,iD l),(34,Ae (o+2*Aa t) 0),(36,iD l),(41,iD l),(42,iD (↑l+1))] ?_ (hc:=⟨trivial,trivial,(by omega)⟩);refine zAs (Ai [Ag m 0 (Aa t) (Aa t*2) Ab] 185 0 Ac Ac Aj) (o+2*Aa t) (Ay 1 1) (Ag m 0 (Aa t) (Aa t*2) Ab) htB2 (by simp) ?_;refine zAs (Ai [Ag m 0 (Aa t) (Aa t*2) Ab] 185 0 Ac Ac Aj) (o+2*Aa t) (Ay 1 1) (Ag m 0 (Aa t) (Aa t*2) Ab) htB2 (by simp) ?_;refine zX 1 [] [] ((0:Int)<=(l:Int)/\(l:Int)<↑(Aa t)) [(37,Ae m (0+Ao (l:Int)*2))] ?_;refine zAp 37 (Ae m (0+Ao (l:Int)*2)) (Ae m (l*2)) (by simp(disch:=omega) only[AS,AT]) ?_;refine zBa 1 [(38,Ae m (l*2+1))] ?_;refine zAs (Ai (lvCs o u2) 243 2 Ab Ac AM) (m) (Ay 1<|Aa<|Ak (l*2+1)<|lvCs o u2) (AG (Ak (l*2+1)<|lvCs o u2) Uk) (zBi<|tl_m hm) (by(simp;omega)) ?_;rw[hhd2];refine zAs (Ai [Ag m 0 (Aa t) (Aa t*2) Ab] 185 0 Ac Ac Aj) (o+2*Aa t) (Ay 1 1) (An [Ag m 0 (Aa t) (Aa t*2) Ab]) htB2 (by simp) ?_;refine zAn ?_ (by kernel_rfl);refine zFt rfl rfl (zFp<|λx hx=>by rw[hl3];simp at hx;rcases hx with rfl|rfl|rfl|rfl|rfl<;>(show _+1<=100000;omega)) ?_;refine zAi [] [] [An [Ag m 0 (Aa t) (Aa t*2) Ab],iD (↑l+1)] [An [Ag m 0 (Aa t) (Aa t*2) Ab],iD ↑(l+1)] (Az _) (by exact hsz2) ?_;refine zAn ?_ (by kernel_rfl);have htk:∀st:List Bk,st.length<=100000->st.take 100000=st:=λst h=>zFe h;have htB3:((tlay m o base u2++[tvB m t.length]).take 100000)[o+2*t.length]?=Ah (tvB m t.length):=by rw[htk _ (by rw[hl3];omega)];exact htB2
  have htm3:((tlay m o base u2++[tvB m t.length]).take 100000)[m]?=Ah (lvB o u2):=by rw[htk _ (by rw[hl3];omega)];exact zBi (tl_m hm)
  refine zFg (Au _) (zD3 (zE5 1 100000 (tvB m t.length) (o+2*t.length) (0<1) (.osl m 0 t.length (t.length*2) Ab) (by kernel_rfl) htB3 (by decide) (by kernel_rfl))
   (zD3 (zE5 4 100000 (tvB m t.length) (o+2*t.length) (0<1) (.osl m 0 t.length (t.length*2) Ab) (by kernel_rfl) htB3 (by decide) (by kernel_rfl))
   (zD3 (zNc 6 100000 ((0:Int)<=(l:Nat)/\((l:Nat):Int)<(t.length:Nat)) (.own m (0+Ao (l:Nat)*2)) (.own m (l*2)) (by kernel_rfl) (by simp) (by omega) (by kernel_rfl))
   (zD3 (zNc 7 100000 True (.own m (l*2+1)) (.own m (l*2+1)) (by kernel_rfl) rfl trivial (by kernel_rfl))
   (late_ldE 8 100000 (lvB o u2) m (0<((lvCs o u2).drop (l*2+1)).length) (((lvCs o u2).drop (l*2+1)).headD .unk) (.osl (o+2*l+1) 0 (fst' u l).length (fst' u l).length Ab) (by kernel_rfl) hhd2 htm3 (by rw[List.length_drop,hll2];omega) (by kernel_rfl)))))) ?_
  rotate_left;refine zBm (o+2*Aa t+1) ((1=1/\1<=1/\True)/\0<1/\1=1/\1<=16777216/\1<=9223372036854775807) (Ai [iD (↑(Aa<|vls u (l+1)):Int)] 3 1 Ab Ac Aj) (Ag 0 0 1 1 Ab) hl3 ?_ (hp:=⟨⟨(by kernel_rfl),⟨(by omega),trivial⟩⟩,(by omega)⟩);refine zAn ?_ (by kernel_rfl);refine zFt rfl rfl (zFp<|λx hx=>by rw[AE,hl3];simp at hx;subst hx;show _+1<=100000;omega) ?_;have hfb:(tlay m o base u2)[o+2*l+1]?=Ah (inA (fst' u l)):=by rw[tl_f hm hul2,hf2]
  refine zSn (Ai (Af (λ(c:Nat)=>iD c)<|fst' u l) 3 1 Ab Ac Aj) (Ai [iD (↑(Aa<|vls u (l+1)):Int)] 3 1 Ab Ac Aj) 39 (o+2*l+1) (o+2*Aa t+1) (Ab=Ab/\Aa (Af (λ(c:Nat)=>iD c)<|fst' u l)=Aa (fst' u l)*1/\Aa (fst' u l)=Aa (fst' u l)*1/\3=3/\1=1/\1=1/\0<1/\0<8/\3=3/\(Aa (fst' u l)+1)*8<=140737488355328/\1=1/\Kd.isMap Aj=Ac/\(zCq Am (Tt o) 39=Ac\/Kd.isSh Aj=Ab)) (o+2*Aa t≠o+2*l+1/\o+2*Aa t≠o+2*l+1/\m≠o+2*l+1/\o+2*Aa t≠o+2*l+1/\m≠o+2*l+1/\m≠o+2*l+1/\m≠o+2*l+1/\m≠o+2*l+1/\o+2*Aa t+1≠o+2*l+1/\True) (Ai (Af (λ(c:Nat)=>iD c) (fst' u l)++[iD (↑(Aa<|vls u (l+1)):Int)]) 3 1 Ab Ac Aj) (Ag (o+2*l+1) 0 (Aa (fst' u l)+1) ((Aa (fst' u l)+1)*1) Ab) (by kernel_rfl) (zBi<|zBi hfb) (zA5 hl3) ?_ (by kernel_rfl) ⟨(by omega),⟨(by omega),⟨(by omega),⟨(by omega),⟨(by omega),⟨(by omega),⟨(by omega),⟨(by omega),⟨(by omega),trivial⟩⟩⟩⟩⟩⟩⟩⟩⟩ ?_ ?_
  ·exact⟨rfl,by rw[AV,AZ],(AZ _).symm,rfl,rfl,rfl,by decide,by decide,rfl,by omega,rfl,rfl, .inl (by kernel_rfl)⟩
  ·exact decide_eq_false (by omega)
  rw[kst (t:=u2) (k:=o+2*l+1) (by omega) (zYj (by omega)) (zJa rfl)];rw[AZ];refine zAn ?_ (by kernel_rfl);refine zFg (by rw[AE,hl3,AE,AE,zGc,hln2];exact Au _) (zE5 1 100000 (tvB m t.length) (o+2*t.length) (0<1) (.osl m 0 t.length (t.length*2) Ab) (by kernel_rfl) (by rw[zFe (by rw[AE,AE,zGc,hln2];show _+1+1<=100000;omega)];exact zBi (zA5 (by rw[zGc,hln2]))) (by decide) (by kernel_rfl)) ?_;refine zX 1 [] [] ((0:Int)<=(l:Int)/\(l:Int)<↑(Aa t)) [(46,Ae m (0+Ao (l:Int)*2))] ?_;refine zAp 46 (Ae m (0+Ao (l:Int)*2)) (Ae m (l*2)) (by simp(disch:=omega) only[AS,AT]) ?_;refine zBa 1 [(47,Ae m (l*2+1))] ?_;refine zCh (Ai (Af (zAq (o+2*l+1))<|lvCs o u2) 243 2 Ab Ac AM) (m) (Ac=Ac/\Ab=Ab/\1=1/\l*2+1+1<=Aa (Af (zAq (o+2*l+1))<|lvCs o u2)) (Ai (setAt (Af (zAq (o+2*l+1))<|lvCs o u2) (l*2+1)<|cellsOf<|Ag (o+2*l+1) 0 (Aa (fst' u l)+1) (Aa (fst' u l)+1) Ab) 243 2 Ab Ac AM) (zBi<|zBi<|ks_m hm (by omega:o+2*l+1≠m)) ⟨(by kernel_rfl),⟨(by kernel_rfl),⟨(by kernel_rfl),(by(simp;omega))⟩⟩⟩ ?_;have hA2:=tl_appf1 (base:=base) hm hbs hul2 (vls u (l+1)).length;rw[hf2]at hA2;have hst2:u2.set l (vls u2 l,fst' u l++[(vls u (l+1)).length])=stA x u l:=by
   rw[hv2,if_pos rfl,hu2,List.set_set,hvv];rfl
  rw[hst2]at hA2;refine zJq (tlay m o base (stA x u l)++[tvB m t.length]++[⟨[iD ((vls u (l+1)).length:Nat)],3,1,Ab,Ac,.plain⟩]) ?_ ?_
  ·rw[zB7 (by rw[AE,zGc];omega),zB7 (by rw[zGc];omega)];exact congrArg (λs=>s++[tvB m t.length]++[_]) hA2
  refine zAn ?_ (by kernel_rfl);refine zFh<|zD<|zC ?_;have hln3:(stA x u l).length=t.length:=by rw[stA_len,hln]
  have hnm3:∀b∈tlay m o base (stA x u l)++[tvB m t.length],namB (o+2*t.length+1) b:=λb hb=>by
   rcases Bi.1 hb with hb|hb
   ·have:=zVo hbs b hb
    rw[hln3]at this;exact this.imp id λh j hj=>h j (by omega)
   grind
  refine zHo (AJ 7 41) ([Uk,rowV x,Uk,.own (o+2*t.length) 0,Uk,Uk,iD (l:Nat)]++AF 41 Uk) (o+2*t.length<o+2*t.length+1/\True) (by rw[AE,zCo,hln3];rfl) hnm3 hkp (by kernel_rfl) (by kernel_rfl) ⟨by omega,trivial⟩ ?_;refine zB rfl<|zX 3 [] [] (i6 (↑l+1)) [(6,iD ↑(l+1)),(12,iD l),(13,iD ↑(l+1))] ?_;refine zAn ?_ (by kernel_rfl);refine zC<|⟨l+1,⟨by omega,hl,?_⟩,by omega,?_⟩
  ·grind [stA_sz]
  rw[hsu];refine vkp [1,3,6]
 obtain rfl:l=t.length:=by omega
 have hfA:=foldA f x t hx;rw[<-hfA];refine zA<|vA<|zAh [8,9,10] [(11,bD<|decide ((Aa t:Int)<(Aa x:Int)))] ?_;refine vF ((Aa t:Int)<↑(Aa x))<|vY2<|zT (True) [] (.inl rfl) ?_;exact⟨by kernel_rfl,rfl⟩
theorem add_a(hm:m<o)(hbs:Bss o base)(x:List Va)(t:Tri)(f:Nat)(hx:x.length=t.length)(hf:f<=t.length)(h32:t.length<=1000)(ho:o<=1000)(B:Nat)(hB:B+t.length<=1000000)(hS:SzT B t)(ch:List Nat)(hch:∀k,k<o+2*t.length->k<o\/k∈ch):
  Acts Am 126 [.agg [.osl m 0 t.length (t.length*2) Ab],rowV x,iD (f:Nat)] (tlay m o base t) ch (.tup []) (tlay m o base (adT x f t)):=
 (add_k hm hbs x t f hx hf h32 ho B hB hS ch hch).tail (N:=o+2*t.length) (by rw[zCo,zG8]) (by rw[zCo];exact Au _) (λb hb=>by have:=zVo hbs b hb;rwa[zG8]at this) (λj _=>by simp only[refs,zAt])
end
variable{e:Bk}{wh:Bool}
section
open Go.RowKit
abbrev nlD:D:= .val (.slice AA 0 0)
def zLt(o c k:Nat):List D:=(Aw c).map λi=>if i<k then .osl (o+i) 0 0 0 Ab else nlD
def zWu(k:Nat):List Bk:=(Aw k).map λi=>if i%2=0 then vaA []else inA []
theorem zKq(o c k i:Nat):(zLt o c k)[i]?=if i<c then Ah (if i<k then .osl (o+i) 0 0 0 Ab else nlD)else none:=by
 grind [zLt,Bf]
theorem zVk{T:Par}{sl:List D}(B0 B1 B2 B4:Bk)(c:Nat):∀k,k<=c->Weak T sl [B0,B1,B2,⟨zLt 5 c 0,243,2,Ab,Ac, .sh⟩,B4] sl ([B0,B1,B2,⟨zLt 5 c k,243,2,Ab,Ac, .sh⟩,B4]++zWu k)
 |0,_=>Weak.refl _ _
 | k+1,hk=>by
  refine(zVk B0 B1 B2 B4 c k (by omega)).trans ?_;have h:=Weak.nilC (T:=T) (sl:=sl) (st:=[B0,B1,B2,⟨zLt 5 c k,243,2,Ab,Ac, .sh⟩,B4]++zWu k) (j:=3) (i:=k) (if k%2=0 then vaA []else inA []) rfl rfl rfl (by
   show(zLt 5 c k)[k]?=_;rw[zKq,if_pos (by omega),if_neg (by omega)])
  have hl:([B0,B1,B2,⟨zLt 5 c k,243,2,Ab,Ac, .sh⟩,B4]++zWu k).length=5+k:=by
   simp[zWu];omega
  have e1:(zLt 5 c k).set k (.osl (5+k) 0 0 0 Ab)=zLt 5 c (k+1):=by
   apply A2;grind [zKq,zLt]
  simp_all [zWu,vaA,inA,List.range_succ,List.map_append,BL]
theorem zSx(n k:Nat):vls (AF n (([],[]):List Va×List Nat)) k=[]/\fst' (AF n (([],[]):List Va×List Nat)) k=[]:=by
 unfold vls fst';rw[AN,List.getElem?_replicate];split<;>exact⟨rfl,rfl⟩
theorem nils_tlay(B0 B1 B2 B4:Bk)(base:Nat->Bk)(n:Nat)(h0:base 0=B0)(h1:base 1=B1)(h2:base 2=B2)(h4:base 4=B4):[B0,B1,B2,⟨zLt 5 (n*2) (n*2),243,2,Ab,Ac, .sh⟩,B4]++zWu (n*2)=tlay 3 5 base (AF n ([],[])):=by
 apply A2;intro j;have hv:=λk=>(zSx n k).1;have hf:=λk=>(zSx n k).2;rcases Ax j 5 with hj|hj
 ·rw[Ce (by simpa using hj),zEe (by omega)];unfold tblk;match j,hj with
  |0,_=>rw[if_neg (by decide),if_pos (by decide),h0];rfl
  |1,_=>rw[if_neg (by decide),if_pos (by decide),h1];rfl
  |2,_=>rw[if_neg (by decide),if_pos (by decide),h2];rfl
  |4,_=>rw[if_neg (by decide),if_pos (by decide),h4];rfl
  | 3,_=>
   rw[if_pos rfl];have:zLt 5 (n*2) (n*2)=lvCs 5 (AF n ([],[])):=by
    apply A2;intro i;rw[zKq,zMp,By];grind
   rw[this];rfl
 rw[BM (by simpa using hj)];show(zWu (n*2))[j-5]?=_;unfold zWu;rcases Ax (j-5) (n*2)with h|h
 ·grind [zEe,By,only,List.getElem?_range,BH.injEq,tblk]
 grind [Bf,zCo,By]
theorem weak_mk(B0 B1 B2 B4:Bk)(base:Nat->Bk)(n:Nat)(h0:base 0=B0)(h1:base 1=B1)(h2:base 2=B2)(h4:base 4=B4):Weak T sl [B0,B1,B2,⟨repL n [nlD,nlD],243,2,Ab,Ac, .sh⟩,B4] sl (tlay 3 5 base (AF n ([],[]))):=by
 have e:repL n [nlD,nlD]=zLt 5 (n*2) 0:=by
  apply A2;intro i;rw[zKq];have key:∀(n i:Nat),(repL n [nlD,nlD])[i]?=if i<n*2 then Ah nlD else none:=by
   intro n;induction n with
   |zero=>intro i;simp[repL]
   |succ n ih=>
    intro i;have:repL (n+1) [nlD,nlD]=nlD::nlD::repL n [nlD,nlD]:=by simp[repL,Cf]
    grind
  grind
 rw[e,<-nils_tlay B0 B1 B2 B4 base n h0 h1 h2 h4];exact zVk B0 B1 B2 B4 (n*2) (n*2) (Au _)
theorem frz_oslT(h:st[k]?=Ah e)(hm:e.kd.isMap=Ac)(hn:e.nob=Ab):frz Ab st (n+1) (.osl k off l m wh)=Ah (.row ((e.cells.drop off).take m) l,[k]):=by
 grind [only,frz,Bool.false_eq_true]
theorem frz_oslS(h:st[k]?=Ah e)(hm:e.kd.isMap=Ac)(hn:e.nob=Ac):frz Ab st (n+1) (.osl k off l m wh)=(mapF (frz Ab st n) e.cells).map λx=>(.row ((x.1.drop off).take m) l,k::x.2):=by
 grind [only,frz,Bool.false_eq_true]
theorem mapF_tri{m o:Nat}{base:Nat->Bk}{t:Tri}(hm:m<o)(n:Nat):∀ls:List Nat,(∀l∈ls,l<t.length)->∃ks,mapF (frz Ab (tlay m o base t) (n+1)) (ls.flatMap (lvP o t))=Ah (ls.flatMap (λl=>lvC (t.getD l Ad)),ks)/\∀k∈ks,o<=k
 |[],_=>⟨[],rfl,by simp⟩
 | l::ls,h=>by
  obtain⟨ks,h1,h2⟩:=mapF_tri hm n ls λl hl=>h l (by simp[hl]);have hl:=h l (by simp);have hv:=frz_oslT (n:=n) (off:=0) (l:=(vls t l).length) (m:=(vls t l).length*3) (wh:=Ab) (tl_v (base:=base) hm hl) rfl rfl;have hf:=frz_oslT (n:=n) (off:=0) (l:=(fst' t l).length) (m:=(fst' t l).length) (wh:=Ab) (tl_f (base:=base) hm hl) rfl rfl;rw[AY,Bg (by rw[zB6];exact Au _)]at hv;rw[AY,Bg (by simp)]at hf;refine⟨(o+2*l)::(o+2*l+1)::ks,?_,λk hk=>?_⟩
  ·simp only[List.flatMap_cons,lvP,Br,BV,mapF,hv,hf];try simp only[lvP]at h1
   rw[h1]
  grind
theorem range_flat(t:Tri):(Aw t.length).flatMap (λl=>lvC (t.getD l Ad))=t.flatMap lvC:=by
 have:t=(Aw t.length).map λl=>t.getD l default:=by
  apply A2;grind
 grind [List.flatMap_map]
theorem weak_trie(B0:Bk)(h0:base 0=B0)(h1:base 1=⟨[.osl 3 0 t.length (t.length*2) Ab],185,0,Ac,Ac, .plain⟩)(hb0:namB 2 B0)(hk:∀k,2<=k->T.keep k=Ac)(hs:∀j∈ownL sl,j<2):Weak T sl (tlay 3 5 base t) sl [B0,⟨[triC t],185,0,Ac,Ac, .plain⟩]:=by
 obtain⟨ks,hx,hks⟩:=mapF_tri (m:=3) (o:=5) (base:=base) (t:=t) (by decide) 7 (Aw t.length) λl hl=>AX.1 hl;rw[range_flat]at hx;have hfr:frz Ab (tlay 3 5 base t) zAz (.osl 3 0 t.length (t.length*2) Ab)=Ah (triC t,3::ks):=by
  have e:mapF (frz Ab (tlay 3 5 base t) 8) (lvCs 5 t)=Ah (t.flatMap lvC,ks):=hx;have hl:(t.flatMap lvC).length=t.length*2:=zHx zJ0 t;have h8:=frz_oslS (n:=8) (off:=0) (l:=t.length) (m:=t.length*2) (wh:=Ab) (tl_m (m:=3) (o:=5) (base:=base) (t:=t) (by decide)) rfl rfl;rw[e]at h8;simp only[BU]at h8;rw[AY,Bg (by omega)]at h8;exact h8
 have hg1:(tlay 3 5 base t)[1]?=Ah ⟨[.osl 3 0 t.length (t.length*2) Ab],185,0,Ac,Ac, .plain⟩:=by
  rw[zEe (by omega),<-h1];rfl
 have hg0:(tlay 3 5 base t)[0]?=Ah B0:=by rw[zEe (by omega),<-h0];rfl
 have w1:=Weak.fzCell (T:=T) (sl:=sl) (j:=1) (i:=0) hg1 rfl rfl rfl hfr (by
  intro h;rcases Bc.1 h with h|h
  ·cases h
  have:=hks 1 h;omega)
 refine w1.trans ?_;have hlen:((zA3 (tlay 3 5 base t) (3::ks)).set 1 ⟨[triC t],185,0,Ac,Ac, .plain⟩).length=5+2*t.length:=by
  rw[AO,zAc,zCo]
 have htk:((zA3 (tlay 3 5 base t) (3::ks)).set 1 ⟨[triC t],185,0,Ac,Ac, .plain⟩).take 2=[B0,⟨[triC t],185,0,Ac,Ac, .plain⟩]:=by
  apply A2;grind [BR,zBn,only,BQ,zAc,zCo]
 rw[<-htk];refine Weak.cut 2 ?_ hk;unfold zF8;simp only[A9,AX,Bq,BC,A4];intro i hi;refine⟨zDj sl λj hj=>by have:=hs j hj;omega,λe he=>?_⟩;have he:e∈[B0,(⟨[triC t],185,0,Ac,Ac, .plain⟩:Bk)]:=by rw[<-htk];exact he
 rcases Bc.1 he with rfl|he
 ·exact hb0.imp id λh=>h _ (by omega)
 simp_all [Bd,only,zAt,refs,Bp]
theorem next_trie{c:Code}(B0:Bk)(dead:List Nat)(sl':List D)(C:Prop)(h0:base 0=B0)(h1:base 1=⟨[.osl 3 0 t.length (t.length*2) Ab],185,0,Ac,Ac, .plain⟩)(hb0:namB 2 B0)(hk:∀k,2<=k->T.keep k=Ac)(e:zAe sl dead=sl')(hC:lts 2 (ownL sl')=C)(hs:C)(k:awp P T c Q sl' [B0,⟨[triC t],185,0,Ac,Ac, .plain⟩]):zZ P T c Q sl (tlay 3 5 base t):=
 by
 subst e;exact⟨_,_,(BS (LeL.dead dead sl)).trans (weak_trie B0 h0 h1 hb0 hk (zTg (by rw[hC];exact hs))),k⟩
end
section
open Go.Shelf
open Go.Sort Go.RowKit in
theorem Tryz.slices_Sort_int(blk off cap:Nat)(zs:List Int)(w:World)(hH:Holds (AQ .i64) w blk off zs.toArray)(hblk:blk<w.heap.size)(hsz:zs.length<4611686018427387904):
  Calls Am 249 #[.slice (Ah ⟨blk,off,AA⟩) zs.length cap] w λe w'=>
   e= .returned (.tuple #[])/\∃n os,w'=grow (putRow (AQ .i64) (Sort.ahead w n) blk off (zs.mergeSort λx y=>decide (x<=y)).toArray) os:=Any.slices_Sort_int Tryz.lays189 blk off cap zs w hH hblk hsz
open Go.RowKit Go.Sort in
theorem Tryz.slices_Sort_int_none(p:Option Addr)(cap:Nat)(w:World):
  Calls Am 249 #[.slice p 0 cap] w λe w'=>e= .returned (.tuple #[])/\w'=w:=Any.slices_Sort_int_none Tryz.lays189 p cap w
def Tryz.laysSlF14_f164_ren:Go.Shelf.Ren:=⟨λ|14=>164|20=>178|21=>179|22=>180|23=>181|24=>182|25=>183|26=>184|27=>185|46=>194|47=>187|48=>188|49=>195|50=>196|15=>152|57=>203|28=>44|29=>173|n=>n,λ|24=>3|22=>39|3=>3|25=>126|4=>4|0=>0|46=>286|45=>285|50=>263|66=>300|39=>111|55=>52|70=>304|76=>310|77=>311|53=>27|5=>5|9=>9|n=>n,λ|n=>n⟩
theorem Tryz.laysSlF14_f164:Go.Proofs.SlLaysF.n14 Am Tryz.laysSlF14_f164_ren:={
 mixed:=by kernel_rfl
 f14:=⟨Tryz.f164.name,by decide,Tryz.func164.trans (congrArg Ah (by kernel_rfl))⟩
 f15:=Tryz.func152.trans (congrArg Ah (by kernel_rfl))
 f20:=⟨Tryz.f178.name,by decide,Tryz.func178.trans (congrArg Ah (by kernel_rfl))⟩
 f21:=⟨Tryz.f179.name,by decide,Tryz.func179.trans (congrArg Ah (by kernel_rfl))⟩
 f22:=⟨Tryz.f180.name,by decide,Tryz.func180.trans (congrArg Ah (by kernel_rfl))⟩
 f23:=⟨Tryz.f181.name,by decide,Tryz.func181.trans (congrArg Ah (by kernel_rfl))⟩
 f24:=⟨Tryz.f182.name,by decide,Tryz.func182.trans (congrArg Ah (by kernel_rfl))⟩
 f25:=⟨Tryz.f183.name,by decide,Tryz.func183.trans (congrArg Ah (by kernel_rfl))⟩
 f26:=⟨Tryz.f184.name,by decide,Tryz.func184.trans (congrArg Ah (by kernel_rfl))⟩
 f27:=⟨Tryz.f185.name,by decide,Tryz.func185.trans (congrArg Ah (by kernel_rfl))⟩
 f28:=Tryz.func44.trans (congrArg Ah (by kernel_rfl))
 f29:=Tryz.func173.trans (congrArg Ah (by kernel_rfl))
 f46:=⟨Tryz.f194.name,by decide,Tryz.func194.trans (congrArg Ah (by kernel_rfl))⟩
 f47:=Tryz.func187.trans (congrArg Ah (by kernel_rfl))
 f48:=Tryz.func188.trans (congrArg Ah (by kernel_rfl))
 f49:=⟨Tryz.f195.name,by decide,Tryz.func195.trans (congrArg Ah (by kernel_rfl))⟩
 f50:=⟨Tryz.f196.name,by decide,Tryz.func196.trans (congrArg Ah (by kernel_rfl))⟩
 f57:=⟨Tryz.f203.name,by decide,Tryz.func203.trans (congrArg Ah (by kernel_rfl))⟩
 t0:=Tryz.underlying0
 a0:=Tryz.isAgg0
 z0:=Tryz.sizeOf0
 v0:=Tryz.zeroValue0
 t3:=Tryz.underlying3
 a3:=Tryz.isAgg3
 z3:=Tryz.sizeOf3
 v3:=Tryz.zeroValue3
 t4:=Tryz.underlying4
 a4:=Tryz.isAgg4
 z4:=Tryz.sizeOf4
 v4:=Tryz.zeroValue4
 t5:=Tryz.underlying5
 a5:=Tryz.isAgg5
 z5:=Tryz.sizeOf5
 v5:=Tryz.zeroValue5
 t9:=Tryz.underlying9
 a9:=Tryz.isAgg9
 z9:=Tryz.sizeOf9
 v9:=Tryz.zeroValue9
 t22:=Tryz.underlying39
 a22:=Tryz.isAgg39
 z22:=Tryz.sizeOf39
 v22:=Tryz.zeroValue39
 a24:=Tryz.isAgg3
 z24:=Tryz.sizeOf3
 t25:=Tryz.underlying126
 a25:=Tryz.isAgg126
 z25:=Tryz.sizeOf126
 v25:=Tryz.zeroValue126
 t39:=Tryz.underlying111
 a39:=Tryz.isAgg111
 z39:=Tryz.sizeOf111
 v39:=Tryz.zeroValue111
 t45:=Tryz.underlying285
 a45:=Tryz.isAgg285
 z45:=Tryz.sizeOf285
 v45:=Tryz.zeroValue285
 t46:=Tryz.underlying286
 a46:=Tryz.isAgg286
 z46:=Tryz.sizeOf286
 v46:=Tryz.zeroValue286
 t50:=Tryz.underlying263
 a50:=Tryz.isAgg263
 z50:=Tryz.sizeOf263
 v50:=Tryz.zeroValue263
 t53:=Tryz.underlying27
 a53:=Tryz.isAgg27
 z53:=Tryz.sizeOf27
 v53:=Tryz.zeroValue27
 t55:=Tryz.underlying52
 a55:=Tryz.isAgg52
 z55:=Tryz.sizeOf52
 v55:=Tryz.zeroValue52
 t66:=Tryz.underlying300
 a66:=Tryz.isAgg300
 z66:=Tryz.sizeOf300
 v66:=Tryz.zeroValue300
 t70:=Tryz.underlying304
 a70:=Tryz.isAgg304
 z70:=Tryz.sizeOf304
 v70:=Tryz.zeroValue304
 t76:=Tryz.underlying310
 a76:=Tryz.isAgg310
 z76:=Tryz.sizeOf310
 v76:=Tryz.zeroValue310
 t77:=Tryz.underlying311
 a77:=Tryz.isAgg311
 z77:=Tryz.sizeOf311
 v77:=Tryz.zeroValue311}
open Go.RowKit Go.Lib Go.Sort in
theorem Tryz.pdqsortCmpFunc_all_f164[Inhabited α](enc:α->Value)(cf:α->α->Int)(g:Nat)(cb:Array Value)(hO:SWO (ltOf cf))(blk off cap:Nat)(d0:Array α)(w0:World)(eg:∀args w,(callFunc g args).run Am w= .ok (.enter g args) w)(hcmp:CmpLays1 Am g cb enc cf blk off d0.size w0)(R:Row1 enc w0 blk off d0):
  ∀(N a b limit:Nat)(d:Array α)(w:World),b-a<N->d0.size=d.size->SW enc w0 blk off d w->a<=b->b<=d.size->d.size<4611686018427387904->limit<4611686018427387904->Below (ltOf cf) a b d->
  Calls Am 164 #[.slice (Ah ⟨blk,off,AA⟩) d.size cap, .int .i64 a, .int .i64 b, .int .i64 limit, .func (.func g) #[] cb] w λe w'=>e= .returned (.tuple #[])/\SW enc w0 blk off (pdq (ltOf cf) d a b limit Ab Ab) w':=Any.pdqsortCmpFunc_all Tryz.laysSlF14_f164 enc cf g cb hO blk off cap d0 w0 eg hcmp R
open Go.RowKit Go.Lib Go.Sort in
end
variable{g:FuncId}{caps':List D}{ks:List Nat}
section
open Go.RowKit Go.Sort Go.Lib Go.Shelf
section
variable{P:Program}{I:Im}{w:World}{β:Be}{sl:List D}{st:List Bk}{tm:List Value}
theorem zC0(w:World)(os:Array Obj){b:Nat}(h:b<w.heap.size):(grow w os).heap[b]?=w.heap[b]?:=by
 simp[grow,Array.getElem?_append_left h]
theorem Fix.grow(hi:ImB I w)(os:Array Obj):Fix I w I (grow w os):=λb o h=>⟨h,λv hv=>by
 simp only[BY]at hv⊢;rw[zC0 w os (hi b o h)];exact hv,λks vs hm=>hm.of_heap (zC0 w os hm.lt)⟩
theorem Sim.grow(h:Sim β I w sl st tm)(os:Array Obj):Sim β I (grow w os) sl st tm:=by
 have hf:=Fix.grow h.imb os;refine⟨RelT.mono hf β β (A_ _) _ _ h.rel,λk b c hk=>?_,h.inj,h.fz,h.dom,λb o hb=>?_,h.gl.mono hf⟩
 ·obtain⟨e,h1,h2⟩:=h.sr k b c hk;exact⟨e,h1,h2.mono (zC0 w os h2.lt) hf (A_ _)⟩
 have:=h.imb b o hb
 simp[Go.Sort.grow];omega
theorem Stp.grow(hi:ImB I w)(β:Be)(os:Array Obj):Stp β I w β I (grow w os):=⟨Fix.grow hi os,by simp[Go.Sort.grow],λb hb _=>zC0 w os hb,rfl,rfl,rfl,Au _,λk b c h=> .inl ⟨k,c,h⟩,λ_ _ h=> .inl h⟩
theorem zHi:∀(xs ys pre:List D),xs.length=ys.length->setAt (pre++xs) pre.length ys=pre++ys
 |xs,[],pre,hl=>by
  obtain rfl:xs=[]:=Bo (by simpa using hl);rfl
 |[],y::ys,pre,hl=>by simp at hl
 |x::xs,y::ys,pre,hl=>by
  simp only[setAt];have e1:(pre++x::xs).set pre.length y=(pre++[y])++xs:=by simp
  rw[e1]
  have:=zHi xs ys (pre++[y]) (by simpa using hl)
  grind
theorem Sim.fzAll(h:Sim β I w sl st tm)(ks:List Nat):Sim β (fixI I β st ks) w sl (zA3 st ks) tm:=by
 refine⟨RelT.mono (zAv ks) β β (A_ _) _ _ h.rel,λj b c hj=>?_,h.inj,λj b c o e hj he hi'=>?_,λj y hj=>?_,zFw h.sr.weak h.imb ks,h.gl.mono (zAv ks)⟩
 ·obtain⟨e,k1,k2⟩:=h.sr j b c hj;refine⟨if j∈ks then{e with fz:=Ab}else e,by rw[zBn,k1];rfl,?_⟩;have k3:=OwnRel.mono (β':=β) k2 rfl (zAv (β:=β) (st:=st) ks) (A_ _);split
  ·exact k3.like rfl rfl rfl rfl rfl
  exact k3
 ·rw[zBn]at he;obtain⟨e0,he0,rfl⟩:=Option.map_eq_some_iff.1 he;rcases hi' with hi'|⟨k',hk',c',e',m1,m2,m3⟩
  ·have:=h.fz j b c o e0 hj he0 hi'
   grind
  have:=h.inj k' j b c' c m1 hj
  grind
 rw[zAc];exact h.dom j y hj
theorem Stp.fzAll(hi:Sim β I w sl st tm)(ks:List Nat):Stp β I w β (fixI I β st ks) w:=⟨zAv ks,Au _,λ_ _ _=>rfl,rfl,rfl,rfl,Au _,λk b c h=> .inl ⟨k,c,h⟩,λb o hb=>by
 rcases hb with hb|⟨k',_,c',_,m1,_⟩
 ·exact .inl hb
 exact .inr (.inr ⟨k',c',m1⟩)⟩
theorem zMd{ds':List D}{us3:List Value}{caps:List D}(he:st[k]?=Ah e)(ha:e.arr=Ab)(hkd:e.kd= .plain)(hf:e.fz=Ac)(hlen:e.cells.length=n)(hl':ds'.length=n)(hpos:0<n)
  (hfr:frz Ab st zAz (.clo (.func g) [] caps)=Ah (.clo (.func g) [] caps',ks))(hnk:k∉ks)
  (h:∀(I:Im) b c w us cb,ImB I w->Gl I w->(∀j,¬I b j)->RelT I w noB caps' cb->RelL I w noB e.cells us->(∃cur t,w.heap[b]?=Ah (.cells cur t (0,0)))->(∀j,j<n->w.cell? ⟨b,0+j,AA⟩=Ah (us.getD j undef))->(∀j,j<n->w.frozen? ⟨b,0+j,AA⟩=Ac)->n<=c->Calls P f (#[.slice (Ah ⟨b,0,AA⟩) n c]++us3.toArray++#[.func (.func g) #[] cb.toArray]) w λx w'=>x= .returned (.tuple #[])/\∃vs q os,w'=grow ((w.drewN q).setCells b 0 vs) os/\RelL I w noB ds' vs):
  Acts P f (.osl k 0 n n wh::(us3.map .val++[.clo (.func g) [] caps])) st [] (.val (.tuple #[])) ((zA3 st ks).set k {e with cells:=ds'}):=by
 intro β I w xs hr hsr hinj hfz hdom hi hg;simp only[RelT]at hr;obtain⟨v,ys,rfl,hr,hys⟩:=hr;have hsp:∀(us3:List Value)(ys:List Value),RelT I w β (us3.map .val++[.clo (.func g) [] caps]) ys->∃v3,ys=us3++[v3]/\Rel I w β (.clo (.func g) [] caps) v3:=by
  intro us3;induction us3 with
  |nil=>
   intro ys h;simp only[List.map_nil,BV,RelT]at h;grind
  |cons u us3 ih=>
   intro ys h;simp only[BE,Br,RelT]at h;obtain⟨v,us,rfl,h1,h2⟩:=h;simp only[Rel]at h1;grind
 obtain⟨v3,rfl,hv3⟩:=hsp us3 ys hys;simp only[Rel]at hr;rcases hr with⟨e0,_,rfl⟩|⟨e0,_,_,a,c,rfl,_⟩|⟨b,c,cap,hb,rfl,k1,k2,k3⟩
 ·omega
 ·omega
 have hs00:Sim β I w ([]:List D) st ({tmps:=#[],defers:=[]}:Act).tmps.toList:=⟨by simp only[RelT],hsr,hinj,hfz,hdom,hi,hg⟩;have hs0:=hs00.fzAll ks;have hstp0:=Stp.fzAll hs00 ks;have hv3':=zCp hs00.sr.weak _ _ _ _ v3 hfr hv3;simp only[Rel]at hv3';obtain⟨vs0,cb,rfl,hn0,hcb⟩:=hv3';simp only[RelT]at hn0;subst hn0;have he2:(zA3 st ks)[k]?=Ah e:=by rw[zBn,he];simp[hnk]
 have hni:e.kd.isMap=false:=by rw[hkd];rfl
 have hnob:e.nob=true:=by unfold Bk.nob;rw[hkd,ha];rfl
 obtain⟨e',he',ho⟩:=hs0.sr k b c hb;rw[he2]at he';cases he';obtain⟨cur,c1,c2,c3,c4⟩:=ho.c hni;rw[hnob]at c3;simp only[if_true]at c3;have hno:∀j,¬fixI I β st ks b j:=λj hij=>by
  have:=(hs0.fz k b c j e hb he2 hij).1
  rw[hf]at this;cases this
 have hlc:(cur.take e.cells.length).length=n:=by rw[<-c3.length];exact hlen
 have hcell:∀j,j<n->w.cell? ⟨b,0+j,AA⟩=Ah ((cur.take e.cells.length).getD j undef)/\w.frozen? ⟨b,0+j,AA⟩=false:=λj hj=>by
  have hlt:j<cur.length:=by rw[BZ]at hlc;omega
  refine⟨?_,frozen_of_row w b (0+j) cur.toArray e.ty c1⟩;rw[AN,Cg,if_pos (by omega),AL hlt];simp[BY,c1,hlt]
 have e1:(#[B3 (Ah ⟨b,0,AA⟩) n cap]++us3.toArray++#[Value.func (.func g) #[] cb.toArray])=(B3 (Ah ⟨b,0,AA⟩) n cap::(us3++[Value.func (.func g) #[] cb.toArray])).toArray:=by apply Array.ext';simp
 rw[show(List.toArray ([]:List Value))=#[]from rfl,<-e1];refine(h (fixI I β st ks) b cap w (cur.take e.cells.length) cb hs0.imb hs0.gl hno hcb c3 ⟨_,_,c1⟩ (λj hj=>(hcell j hj).1) (λj hj=>(hcell j hj).2) k1).mono ?_;rintro x w' ⟨rfl,vs,q,os,rfl,hvs⟩;have hvs':RelL (fixI (fixI I β st ks) β (zA3 st ks) []) (w.drewN q) (if e.nob then noB else β) ds' vs:=by
  rw[hnob];simp only[if_true];exact RelL.mono ((Fix.drew (fixI I β st ks) w q).trans (zAv [])) _ _ (A_ _) _ _ hvs
 obtain⟨s1,s2,s3⟩:=(hs0.drew q).put (off:=0) (cs:=ds') (vs:=vs) (ks:=[]) hb he2 hf hni (by simp) hvs' (by omega) AA undef;have hset2:setAt e.cells 0 ds'=ds':=zHi e.cells ds' [] (by omega);rw[hset2]at s1;have s4:=s1.grow os;exact⟨_,β,_,rfl,s4.imb,hstp0.trans ((Stp.drew β _ w q).trans (s2.trans (Stp.grow s1.imb β os))),λ_ _ _ h=>h,s4.sr,s4.inj,s4.fz,s4.dom,by simp only[Rel]⟩
end
end
section
open Go.RowKit Go.Sort Go.Lib Go.Shelf
theorem zTy{w w':World}(h:Ext w w'):∃q os,w'=grow (w.drewN q) os:=by
 obtain⟨p,hp⟩:=regrown_of_below h.1;have hd:=h.2;refine⟨p.d-w.drawn,p.os,?_⟩;rw[hp]at hd⊢;have:w.drawn<=p.d:=hd;congr 1;unfold redrawn World.drewN;congr 1;omega
structure On(zs:List Nat)(cf:Nat->Nat->Int):Prop where
 eq:∀x∈zs,∀y∈zs,(cf x y=0↔x=y)
 neg:∀x∈zs,∀y∈zs,cf y x=-cf x y
 tr:∀x∈zs,∀y∈zs,∀z∈zs,cf x y<0->cf y z<0->cf x z<0
def zCy(cf:Nat->Nat->Int)(zs:List Nat):List Nat:=zs.mergeSort λa b=>decide (cf a b<=0)
section
variable{zs:List Nat}{cf:Nat->Nat->Int}
theorem On.le_tr(h:On zs cf){a b:Nat}(ha:a∈zs)(hb:b∈zs)(hd:d∈zs)(h1:cf a b<=0)(h2:cf b d<=0):cf a d<=0:=by
 by_cases e1:cf a b=0
 ·rw[(h.eq a ha b hb).1 e1];exact h2
 by_cases e2:cf b d=0
 ·rw[<-(h.eq b hb d hd).1 e2];exact h1
 have:=h.tr a ha b hb d hd (by omega) (by omega);omega
theorem zB5(cf:Nat->Nat->Int)(zs:List Nat):(zCy cf zs).Perm zs:=List.mergeSort_perm _ _
theorem On.swo(h:On zs cf):SWO (ltOf λx y:{z//z∈zs}=>cf x.1 y.1):=by
 refine⟨λx=>?_,λx y z h1 h2=>?_,λx y z h1 h2=>?_⟩
 ·simp[ltOf,(h.eq x.1 x.2 x.1 x.2).2 rfl]
 ·simp only[ltOf,decide_eq_true_eq]at*;exact h.tr _ x.2 _ y.2 _ z.2 h1 h2
 simp only[ltOf,decide_eq_false_iff_not]at*;have g1:=h.neg x.1 x.2 y.1 y.2;have g2:=h.neg y.1 y.2 z.1 z.2;have g3:=h.neg x.1 x.2 z.1 z.2
 have:=h.le_tr (a:=z.1) (b:=y.1) (d:=x.1) z.2 y.2 x.2 (by omega) (by omega)
 omega
theorem On.sorted(h:On zs cf):(zCy cf zs).Pairwise λa b=>¬cf b a<0:=by
 have key:(zs.attach.mergeSort λa b=>decide (cf a.1 b.1<=0)).Pairwise λa b=>decide (cf a.1 b.1<=0)=true:=
  List.pairwise_mergeSort (le:=λa b:{z//z∈zs}=>decide (cf a.1 b.1<=0)) (λa b d h1 h2=>by
   simp only[decide_eq_true_eq]at*;exact h.le_tr a.2 b.2 d.2 h1 h2) (λa b=>by
   have:=h.neg a.1 a.2 b.1 b.2
   simp only[A4,decide_eq_true_eq];omega) zs.attach
 have e:zCy cf zs=(zs.attach.mergeSort λa b=>decide (cf a.1 b.1<=0)).map (·.1):=by
  grind [zCy,List.attach_map_subtype_val,List.map_mergeSort]
 rw[e,List.pairwise_map];refine key.imp λ{a b} h1=>?_
 have:=h.neg a.1 a.2 b.1 b.2
 grind
theorem On.uniq(h:On zs cf){m:List Nat}(hp:m.Perm zs)(hs:m.Pairwise λa b=>¬cf b a<0):m=zCy cf zs:=by
 have hp2:=zB5 cf zs;refine List.Perm.eq_of_pairwise (le:=λa b=>¬cf b a<0) (λa b ha hb h1 h2=>?_) hs h.sorted (hp.trans hp2.symm);have ha:=hp.mem_iff.1 ha;have hb:=hp2.mem_iff.1 hb
 have:=h.neg a ha b hb
 exact(h.eq a ha b hb).1 (by omega)
end
end
section
open Go.Shelf
def Tryz.laysRow151_ren:Go.Shelf.Ren:=⟨λ|14=>151|20=>165|21=>166|22=>167|23=>168|24=>169|25=>170|26=>171|27=>172|46=>186|47=>187|48=>188|49=>189|50=>190|15=>152|57=>197|28=>44|29=>173|n=>n,λ|24=>110|22=>40|3=>3|25=>228|4=>4|0=>0|46=>286|45=>285|50=>263|66=>300|39=>111|55=>52|70=>304|76=>310|77=>311|53=>27|5=>5|9=>9|n=>n,λ|n=>n⟩
theorem Tryz.laysRow151:Go.Proofs.SlLaysF.n14 Am Tryz.laysRow151_ren:={
 mixed:=by kernel_rfl
 f14:=⟨Tryz.f151.name,by decide,Tryz.func151.trans (congrArg Ah (by kernel_rfl))⟩
 f15:=Tryz.func152.trans (congrArg Ah (by kernel_rfl))
 f20:=⟨Tryz.f165.name,by decide,Tryz.func165.trans (congrArg Ah (by kernel_rfl))⟩
 f21:=⟨Tryz.f166.name,by decide,Tryz.func166.trans (congrArg Ah (by kernel_rfl))⟩
 f22:=⟨Tryz.f167.name,by decide,Tryz.func167.trans (congrArg Ah (by kernel_rfl))⟩
 f23:=⟨Tryz.f168.name,by decide,Tryz.func168.trans (congrArg Ah (by kernel_rfl))⟩
 f24:=⟨Tryz.f169.name,by decide,Tryz.func169.trans (congrArg Ah (by kernel_rfl))⟩
 f25:=⟨Tryz.f170.name,by decide,Tryz.func170.trans (congrArg Ah (by kernel_rfl))⟩
 f26:=⟨Tryz.f171.name,by decide,Tryz.func171.trans (congrArg Ah (by kernel_rfl))⟩
 f27:=⟨Tryz.f172.name,by decide,Tryz.func172.trans (congrArg Ah (by kernel_rfl))⟩
 f28:=Tryz.func44.trans (congrArg Ah (by kernel_rfl))
 f29:=Tryz.func173.trans (congrArg Ah (by kernel_rfl))
 f46:=⟨Tryz.f186.name,by decide,Tryz.func186.trans (congrArg Ah (by kernel_rfl))⟩
 f47:=Tryz.func187.trans (congrArg Ah (by kernel_rfl))
 f48:=Tryz.func188.trans (congrArg Ah (by kernel_rfl))
 f49:=⟨Tryz.f189.name,by decide,Tryz.func189.trans (congrArg Ah (by kernel_rfl))⟩
 f50:=⟨Tryz.f190.name,by decide,Tryz.func190.trans (congrArg Ah (by kernel_rfl))⟩
 f57:=⟨Tryz.f197.name,by decide,Tryz.func197.trans (congrArg Ah (by kernel_rfl))⟩
 t0:=Tryz.underlying0
 a0:=Tryz.isAgg0
 z0:=Tryz.sizeOf0
 v0:=Tryz.zeroValue0
 t3:=Tryz.underlying3
 a3:=Tryz.isAgg3
 z3:=Tryz.sizeOf3
 v3:=Tryz.zeroValue3
 t4:=Tryz.underlying4
 a4:=Tryz.isAgg4
 z4:=Tryz.sizeOf4
 v4:=Tryz.zeroValue4
 t5:=Tryz.underlying5
 a5:=Tryz.isAgg5
 z5:=Tryz.sizeOf5
 v5:=Tryz.zeroValue5
 t9:=Tryz.underlying9
 a9:=Tryz.isAgg9
 z9:=Tryz.sizeOf9
 v9:=Tryz.zeroValue9
 t22:=Tryz.underlying40
 a22:=Tryz.isAgg40
 z22:=Tryz.sizeOf40
 v22:=Tryz.zeroValue40
 a24:=Tryz.isAgg110
 z24:=Tryz.sizeOf110
 t25:=Tryz.underlying228
 a25:=Tryz.isAgg228
 z25:=Tryz.sizeOf228
 v25:=Tryz.zeroValue228
 t39:=Tryz.underlying111
 a39:=Tryz.isAgg111
 z39:=Tryz.sizeOf111
 v39:=Tryz.zeroValue111
 t45:=Tryz.underlying285
 a45:=Tryz.isAgg285
 z45:=Tryz.sizeOf285
 v45:=Tryz.zeroValue285
 t46:=Tryz.underlying286
 a46:=Tryz.isAgg286
 z46:=Tryz.sizeOf286
 v46:=Tryz.zeroValue286
 t50:=Tryz.underlying263
 a50:=Tryz.isAgg263
 z50:=Tryz.sizeOf263
 v50:=Tryz.zeroValue263
 t53:=Tryz.underlying27
 a53:=Tryz.isAgg27
 z53:=Tryz.sizeOf27
 v53:=Tryz.zeroValue27
 t55:=Tryz.underlying52
 a55:=Tryz.isAgg52
 z55:=Tryz.sizeOf52
 v55:=Tryz.zeroValue52
 t66:=Tryz.underlying300
 a66:=Tryz.isAgg300
 z66:=Tryz.sizeOf300
 v66:=Tryz.zeroValue300
 t70:=Tryz.underlying304
 a70:=Tryz.isAgg304
 z70:=Tryz.sizeOf304
 v70:=Tryz.zeroValue304
 t76:=Tryz.underlying310
 a76:=Tryz.isAgg310
 z76:=Tryz.sizeOf310
 v76:=Tryz.zeroValue310
 t77:=Tryz.underlying311
 a77:=Tryz.isAgg311
 z77:=Tryz.sizeOf311
 v77:=Tryz.zeroValue311}
def Tryz.laysRow258_ren:Go.Shelf.Ren:=⟨λ|14=>258|20=>268|21=>269|22=>270|23=>271|24=>272|25=>273|26=>274|27=>275|46=>279|47=>187|48=>188|49=>280|50=>281|15=>152|57=>283|28=>44|29=>173|n=>n,λ|24=>39|22=>80|3=>3|25=>345|4=>4|0=>0|46=>286|45=>285|50=>263|66=>300|39=>111|55=>52|70=>304|76=>310|77=>311|53=>27|5=>5|9=>9|n=>n,λ|n=>n⟩
theorem Tryz.laysRow258:Go.Proofs.SlLaysF.n14 Am Tryz.laysRow258_ren:={
 mixed:=by kernel_rfl
 f14:=⟨Tryz.f258.name,by decide,Tryz.func258.trans (congrArg Ah (by kernel_rfl))⟩
 f15:=Tryz.func152.trans (congrArg Ah (by kernel_rfl))
 f20:=⟨Tryz.f268.name,by decide,Tryz.func268.trans (congrArg Ah (by kernel_rfl))⟩
 f21:=⟨Tryz.f269.name,by decide,Tryz.func269.trans (congrArg Ah (by kernel_rfl))⟩
 f22:=⟨Tryz.f270.name,by decide,Tryz.func270.trans (congrArg Ah (by kernel_rfl))⟩
 f23:=⟨Tryz.f271.name,by decide,Tryz.func271.trans (congrArg Ah (by kernel_rfl))⟩
 f24:=⟨Tryz.f272.name,by decide,Tryz.func272.trans (congrArg Ah (by kernel_rfl))⟩
 f25:=⟨Tryz.f273.name,by decide,Tryz.func273.trans (congrArg Ah (by kernel_rfl))⟩
 f26:=⟨Tryz.f274.name,by decide,Tryz.func274.trans (congrArg Ah (by kernel_rfl))⟩
 f27:=⟨Tryz.f275.name,by decide,Tryz.func275.trans (congrArg Ah (by kernel_rfl))⟩
 f28:=Tryz.func44.trans (congrArg Ah (by kernel_rfl))
 f29:=Tryz.func173.trans (congrArg Ah (by kernel_rfl))
 f46:=⟨Tryz.f279.name,by decide,Tryz.func279.trans (congrArg Ah (by kernel_rfl))⟩
 f47:=Tryz.func187.trans (congrArg Ah (by kernel_rfl))
 f48:=Tryz.func188.trans (congrArg Ah (by kernel_rfl))
 f49:=⟨Tryz.f280.name,by decide,Tryz.func280.trans (congrArg Ah (by kernel_rfl))⟩
 f50:=⟨Tryz.f281.name,by decide,Tryz.func281.trans (congrArg Ah (by kernel_rfl))⟩
 f57:=⟨Tryz.f283.name,by decide,Tryz.func283.trans (congrArg Ah (by kernel_rfl))⟩
 t0:=Tryz.underlying0
 a0:=Tryz.isAgg0
 z0:=Tryz.sizeOf0
 v0:=Tryz.zeroValue0
 t3:=Tryz.underlying3
 a3:=Tryz.isAgg3
 z3:=Tryz.sizeOf3
 v3:=Tryz.zeroValue3
 t4:=Tryz.underlying4
 a4:=Tryz.isAgg4
 z4:=Tryz.sizeOf4
 v4:=Tryz.zeroValue4
 t5:=Tryz.underlying5
 a5:=Tryz.isAgg5
 z5:=Tryz.sizeOf5
 v5:=Tryz.zeroValue5
 t9:=Tryz.underlying9
 a9:=Tryz.isAgg9
 z9:=Tryz.sizeOf9
 v9:=Tryz.zeroValue9
 t22:=Tryz.underlying80
 a22:=Tryz.isAgg80
 z22:=Tryz.sizeOf80
 v22:=Tryz.zeroValue80
 a24:=Tryz.isAgg39
 z24:=Tryz.sizeOf39
 t25:=Tryz.underlying345
 a25:=Tryz.isAgg345
 z25:=Tryz.sizeOf345
 v25:=Tryz.zeroValue345
 t39:=Tryz.underlying111
 a39:=Tryz.isAgg111
 z39:=Tryz.sizeOf111
 v39:=Tryz.zeroValue111
 t45:=Tryz.underlying285
 a45:=Tryz.isAgg285
 z45:=Tryz.sizeOf285
 v45:=Tryz.zeroValue285
 t46:=Tryz.underlying286
 a46:=Tryz.isAgg286
 z46:=Tryz.sizeOf286
 v46:=Tryz.zeroValue286
 t50:=Tryz.underlying263
 a50:=Tryz.isAgg263
 z50:=Tryz.sizeOf263
 v50:=Tryz.zeroValue263
 t53:=Tryz.underlying27
 a53:=Tryz.isAgg27
 z53:=Tryz.sizeOf27
 v53:=Tryz.zeroValue27
 t55:=Tryz.underlying52
 a55:=Tryz.isAgg52
 z55:=Tryz.sizeOf52
 v55:=Tryz.zeroValue52
 t66:=Tryz.underlying300
 a66:=Tryz.isAgg300
 z66:=Tryz.sizeOf300
 v66:=Tryz.zeroValue300
 t70:=Tryz.underlying304
 a70:=Tryz.isAgg304
 z70:=Tryz.sizeOf304
 v70:=Tryz.zeroValue304
 t76:=Tryz.underlying310
 a76:=Tryz.isAgg310
 z76:=Tryz.sizeOf310
 v76:=Tryz.zeroValue310
 t77:=Tryz.underlying311
 a77:=Tryz.isAgg311
 z77:=Tryz.sizeOf311
 v77:=Tryz.zeroValue311}
end
variable{rows:List Rw}
section
open Go.RowKit Go.Sort Go.Lib Go.Shelf
def zQu(rows:List Rw):List Rw:=rows.mergeSort λa b=>decide (rcmp a b<=0)
theorem zDp(rows:List Rw):(zQu rows).Perm rows:=List.mergeSort_perm _ _
theorem zWc{a b d:Rw}(h1:rcmp a b<=0)(h2:rcmp b d<=0):rcmp a d<=0:=by
 by_cases e1:rcmp a b=0
 ·rw[(rcw.eq a b).1 e1];exact h2
 by_cases e2:rcmp b d=0
 ·rw[<-(rcw.eq b d).1 e2];exact h1
 have:=rcw.tr a b d (by omega) (by omega);omega
theorem zV0(rows:List Rw):(zQu rows).Pairwise λa b=>rcmp a b<=0:=by
 have:=List.pairwise_mergeSort (le:=λa b:Rw=>decide (rcmp a b<=0)) (λa b d h1 h2=>by
   simp only[decide_eq_true_eq]at*;exact zWc h1 h2) (λa b=>by
   have:=rcw.neg a b
   simp only[A4,decide_eq_true_eq];omega) rows
 exact this.imp λh=>by simpa using h
theorem sortR_uniq{m:List Rw}(hp:m.Perm rows)(hs:m.Pairwise λa b=>¬rcmp b a<0):m=zQu rows:=by
 refine List.Perm.eq_of_pairwise (le:=λa b=>rcmp a b<=0) (λa b ha hb h1 h2=>?_) (hs.imp λ{a b} h=>?_) (zV0 rows) (hp.trans (zDp rows).symm)
 ·have:=rcw.neg a b
  exact(rcw.eq a b).1 (by omega)
 have:=rcw.neg a b
 omega
theorem zSz{I:Im}{w:World}:∀{ds:List D}{us:List Value},RelL I w noB ds us->us.length=ds.length
 |[],us,h=>by simp only[RelL]at h;rw[h];rfl
 |d::ds,us,h=>by
  simp only[RelL]at h;obtain⟨v,us',rfl,_,_,h4⟩:=h;simp[zSz h4]
theorem zS0{I:Im}{w:World}:∀{ds:List D}{us:List Value}{i:Nat}{d:D},RelL I w noB ds us->ds[i]?=Ah d->∃v,us[i]?=Ah v/\v.oneCell'=Ab/\Rel I w noB d v
 |d0::ds,us,0,d,h,e=>by
  simp only[RelL]at h;grind
 |d0::ds,us,i+1,d,h,e=>by
  simp only[RelL]at h;obtain⟨v,us',rfl,h2,h3,h4⟩:=h;exact zS0 (ds:=ds) (us:=us') (i:=i) h4 (by simpa using e)
theorem ltR_swo(rows:List Rw):SWO (ltOf λx y:{z//z<rows.length}=>rcmp (rows.getD x.1 []) (rows.getD y.1 [])):=by
 refine⟨λx=>?_,λx y z h1 h2=>?_,λx y z h1 h2=>?_⟩
 ·have:=(rcw.eq (rows.getD x.1 []) (rows.getD x.1 [])).2 rfl
  simp only[ltOf,this];decide
 ·simp only[ltOf,decide_eq_true_eq]at*;exact rcw.tr _ _ _ h1 h2
 simp only[ltOf,decide_eq_false_iff_not]at*;have g1:=rcw.neg (rows.getD x.1 []) (rows.getD y.1 []);have g2:=rcw.neg (rows.getD y.1 []) (rows.getD z.1 []);have g3:=rcw.neg (rows.getD x.1 []) (rows.getD z.1 [])
 have:=zWc (a:=rows.getD z.1 []) (b:=rows.getD y.1 []) (d:=rows.getD x.1 []) (by omega) (by omega)
 omega
theorem pdq_rows{lim:Nat}{caps:List D}(he:st[k]?=Ah e)(ha:e.arr=Ab)(hkd:e.kd= .plain)(hf:e.fz=Ac)(hc:e.cells=rows.map rowV)(hn:rows.length=n)(hb:n<=2000000)(hpos:0<n)(hlim:lim<4611686018427387904)
  (hfr:frz Ab st zAz (.clo (.func g) [] caps)=Ah (.clo (.func g) [] caps',ks))(hnk:k∉ks)(eg:∀args w,(callFunc g args).run Am w= .ok (.enter g args) w)
  (hcmp:∀x∈rows,∀y∈rows,Pure Am g (rowV x::rowV y::caps') [] (iD (rcmp x y))):
  Acts Am 151 [.osl k 0 n n wh, .val (.int .i64 (0:Nat)), .val (.int .i64 n), .val (.int .i64 lim), .clo (.func g) [] caps] st [] (.val (.tuple #[])) ((zA3 st ks).set k {e with cells:=(zQu rows).map rowV}):=by
 have hsl:(zQu rows).length=n:=by rw[(zDp rows).length_eq,hn]
 refine zMd (us3:=[.int .i64 0, .int .i64 n, .int .i64 lim]) he ha hkd hf (by rw[hc,AV,hn]) (by rw[AV,hsl]) hpos hfr hnk ?_;intro I b c w us cb hi hgl hno hcb hr hcur hcell hfz hcap;rw[hc]at hr;have hul:us.length=n:=by rw[zSz hr,AV,hn]
 let α:={z//z<rows.length};let xs:List α:=(Aw rows.length).attach.map λz=>⟨z.1,AX.1 z.2⟩;let enc:α->Value:=λx=>us.getD x.1 undef;have hxl:xs.length=n:=by
  grind
 have hxat:∀j (hj:j<xs.length),(xs[j]'hj).1=j:=λj hj=>by
  grind
 have hus:us=xs.map enc:=by
  grind [B5,AV,AL]
 have hrel:∀x:α,Rel I w noB (rowV (rows.getD x.1 [])) (enc x)/\(enc x).oneCell'=true:=λx=>by
  have h1:(rows.map rowV)[x.1]?=Ah (rowV (rows.getD x.1 [])):=by
   grind
  obtain⟨v,h2,h3,h4⟩:=zS0 hr h1;grind
 obtain⟨x0,hx0⟩:∃x0,xs[0]?=Ah x0:=⟨xs[0]'(by omega),AL (by omega)⟩
 haveI:Inhabited α:=⟨x0⟩;have hH:Holds enc w b 0 xs.toArray:=λj hj=>by
  grind
 obtain⟨cur,t,hcur⟩:=hcur;have hblk:b<w.heap.size:=by
  grind
 have hone:OneCell enc:=λx=>by
  grind
 have hworld:∀(m:Nat)(os:Array Obj)(ys:List α),ys.length=n->sortWorld enc w b 0 m ys.toArray os=grow ((w.drewN m).setCells b 0 (ys.map enc)) os:=λm os ys hy=>by
  unfold sortWorld;rw[putRow_eq_setCells enc w b 0 xs.toArray ys m hH (by simp[hy,hxl])]
 have hfix:∀(m:Nat)(os:Array Obj)(dk:Array α),dk.size=n->Fix I w I (sortWorld enc w b 0 m dk os)/\w.heap.size<=(sortWorld enc w b 0 m dk os).heap.size:=λm os dk hd=>by
  have e1:=hworld m os dk.toList (by simpa using hd);simp only[Array.toArray_toList]at e1;rw[e1];obtain⟨s1,s2,s3,s4,s5,s6⟩:=zDg b t (dk.toList.map enc) 0 (w.drewN m) cur.toList (by simpa using hcur);refine⟨λb' o' hb'=>?_,?_⟩
  ·have hne:b'≠b:=λe=>hno o' (e▸hb');have hlt:=hi b' o' hb';refine⟨hb',λv hv=>?_,λks vs hm=>?_⟩
   ·simp only[BY]at hv⊢;rw[zC0 _ os (by rw[s3];exact hlt),s2 b' hne];exact hv
   refine hm.of_heap ?_;rw[zC0 _ os (by rw[s3];exact hlt),s2 b' hne];rfl
  simp_all
 have hmr:∀x:α,rows.getD x.1 []∈rows:=λx=>by
  grind
 have hcmp:CmpLays1 Am g cb.toArray enc (λx y:α=>rcmp (rows.getD x.1 []) (rows.getD y.1 [])) b 0 xs.toArray.size w:=by
  intro m os dk hd x y;have hd':dk.size=n:=by simpa[hxl]using hd
  obtain⟨hfx,hsz⟩:=hfix m os dk hd';have hr2:RelT I (sortWorld enc w b 0 m dk os) noB (rowV (rows.getD x.1 [])::rowV (rows.getD y.1 [])::caps') (enc x::enc y::cb):=by
   simp only[RelT];exact⟨_,_,rfl,Rel.mono hfx noB noB (A_ _) _ _ (hrel x).1,_,_,rfl,Rel.mono hfx noB noB (A_ _) _ _ (hrel y).1,RelT.mono hfx noB noB (A_ _) _ _ hcb⟩
  have e1:(#[enc x,enc y]++cb.toArray)=(enc x::enc y::cb).toArray:=by apply Array.ext';simp
  rw[e1];refine(hcmp _ (hmr x) _ (hmr y) I _ _ hr2 (λb o h=>BP (hi b o h) hsz) (hgl.mono hfx)).mono ?_;rintro e' w' ⟨v,I',γ,rfl,hx,_,_,_,_,_,_,_,_,hv,_⟩;simp only[Rel]at hv;simp_all [zTy]
 have hsz:xs.toArray.size=n:=by simp[hxl]
 have main:=Any.pdqsortCmpFunc_all Tryz.laysRow151 enc (λx y:α=>rcmp (rows.getD x.1 []) (rows.getD y.1 [])) g cb.toArray (ltR_swo rows) b 0 c xs.toArray w eg hcmp ⟨hone,hH,hblk⟩ (n+1) 0 n lim xs.toArray w (by omega) rfl (SW.start hH) (Bh _) (by omega) (by omega) hlim (.inl rfl);rw[hsz]at main;refine main.mono ?_;rintro x w' ⟨rfl,q,os,rfl⟩;obtain⟨hp,hso⟩:=pdq_sorts (ltOf λx y:α=>rcmp (rows.getD x.1 []) (rows.getD y.1 [])) (ltR_swo rows) xs.toArray 0 n lim Ab Ab (Bh _) (by omega) (.inl rfl);generalize pdq (ltOf λx y:α=>rcmp (rows.getD x.1 []) (rows.getD y.1 [])) xs.toArray 0 n lim Ab Ab=d' at*;have hd':d'.size=n:=by rw[hp.1,hsz]
 have hperm:d'.toList.Perm xs:=by
  have:=hp.2.2
  grind [Array.extract_size]
 have hrows:xs.map (λx=>rows.getD x.1 [])=rows:=by
  apply B5 (by rw[AV,hxl,hn]);grind
 have hl2:d'.toList.map (λx=>rows.getD x.1 [])=zQu rows:=by
  refine sortR_uniq ?_ ?_
  ·grind
  rw[List.pairwise_map,BI];intro i j hi' hj' hij;have hi2:i<d'.size:=by simpa using hi'
  have hj2:j<d'.size:=by simpa using hj'
  have:=hso i j (Bh _) hij (by omega)
  rw[getElem!_pos d' j hj2,getElem!_pos d' i hi2]at this;simpa[ltOf]using this
 refine⟨rfl,d'.toList.map enc,q,os,?_,?_⟩
 ·simp_all
 rw[<-hl2];have:∀(l:List α),RelL I w noB ((l.map λx=>rows.getD x.1 []).map rowV) (l.map enc):=by
  intro l;induction l with
  |nil=>simp only[List.map_nil,RelL]
  |cons x l ih=>
   simp only[BE,RelL];grind
 exact this _
end
section
open Go.RowKit
attribute [local irreducible] seqW awp zY zZ zR Weak updS zAe retL Pure Acts rP setP setQ cP nP fr
set_option maxRecDepth 4096
theorem zZ3(cs:List D)(n:Nat)(hl:cs.length=n*1)(hn:n<=1000000000):Pure Am 42 [.row cs n] [⟨cs,3,1,Ab,Ac, .plain⟩] (.osl 0 0 n (n*1) Ab):=by
 by_cases h0:n=0
 ·subst h0;obtain rfl:cs=[]:=Bo (by omega);exact zZ5
 have h1:0<n:=by omega
 refine zE0 zCg mixed Tryz.func42 rfl rfl<|vAu<|zA<|vA<|ve (0<n)<|vf<|vK<|vA<|vr 4 ((True/\0<1/\1=1/\0<=16777216/\0<=9223372036854775807)/\Ab=Ab/\0=0/\0=0/\3=3/\1=1/\Aa cs=n*1/\0<1/\0<8/\3=3/\(0+n)*8<=140737488355328/\1=1/\Ac=Ac/\(Ac=Ac\/Ac=Ab))<|vs 2 (Ag 0 0 (0+n) ((0+n)*1) Ab) (Ag 0 0 n n Ab) (hd:=by simp(disch:=omega) only[AT,AZ])<|veT<|zG<|zT (True) [Ag 0 0 n n Ab] (.inr rfl) ?_;exact⟨0,by simp[oneD],by kernel_rfl⟩
theorem zZ2(cs:List D)(n:Nat)(hl:cs.length=n*1)(hn:n<=100000000):Pure Am 68 [.row cs n] [⟨cs,110,1,Ab,Ac, .plain⟩] (.osl 0 0 n (n*1) Ab):=by
 by_cases h0:n=0
 ·grind [Bo,zZ4]
 have h1:0<n:=by omega
 refine zE0 zCg mixed Tryz.func68 rfl rfl<|vAu<|zA<|vA<|ve (0<n)<|vf<|vK<|vA<|vr 4 ((True/\0<1/\1=1/\0<=16777216/\0<=9223372036854775807)/\Ab=Ab/\0=0/\0=0/\110=110/\1=1/\Aa cs=n*1/\0<1/\0<24/\110=110/\(0+n)*24<=140737488355328/\1=1/\Ac=Ac/\(Ac=Ac\/Ac=Ab))<|vs 2 (Ag 0 0 (0+n) ((0+n)*1) Ab) (Ag 0 0 n n Ab) (hd:=by simp(disch:=omega) only[AT,AZ])<|veT<|zG<|zT (True) [Ag 0 0 n n Ab] (.inr rfl) ?_;exact⟨0,by simp[oneD],by kernel_rfl⟩
theorem cloneO_row(cs:List D)(n:Nat)(hl:cs.length=n*3)(hn:n<=100000000):Pure Am 37 [.row cs n] [⟨cs,107,3,Ab,Ac, .plain⟩] (.osl 0 0 n (n*3) Ab):=by
 by_cases h0:n=0
 ·grind [Bo,clone0_row]
 have h1:0<n:=by omega
 refine zE0 zCg mixed Tryz.func37 rfl rfl<|vAu<|zA<|vA<|ve (0<n)<|vf<|vK<|vA<|vr 4 ((True/\0<3/\3=3/\0<=16777216/\0<=9223372036854775807)/\Ab=Ab/\0=0/\0=0/\107=107/\3=3/\Aa cs=n*3/\0<3/\0<32/\107=107/\(0+n)*32<=140737488355328/\3=3/\Ac=Ac/\(Ac=Ac\/Ac=Ab))<|vs 2 (Ag 0 0 (0+n) ((0+n)*3) Ab) (Ag 0 0 n (n*3) Ab) (hd:=by simp(disch:=omega) only[AT])<|veT<|zG<|zT (True) [Ag 0 0 n (n*3) Ab] (.inr rfl) ?_;exact⟨0,by simp[oneD],by kernel_rfl⟩
theorem zQj(cs:List D)(n:Nat)(hl:cs.length=n*3)(hn:n<=100000000):Pure Am 37 [.row cs n] [] (.row cs n):=(cloneO_row cs n hl hn).frozen rfl (Bg (by show cs.length<=_;omega))
def Sm(n:Nat):Prop:=(dg n).length<=1000
theorem zZv:∀{m:Nat},m<=n->(dg m).length<=(dg n).length:=by
 induction n using Nat.strongRecOn with
 | _ n ih=>
  intro m h;by_cases hm:m=0
  ·subst hm;rw[show dg 0=[] by rw[dg];simp];simp
  have e1:dg m=m%4294967296::dg (m/4294967296):=by rw[dg,dif_neg hm]
  have e2:dg n=n%4294967296::dg (n/4294967296):=by rw[dg,dif_neg (by omega)]
  have h2:(dg (m/4294967296)).length<=(dg (n/4294967296)).length:=ih _ (by omega) (Nat.div_le_div_right h);rw[e1,e2,AU,AU];omega
theorem Sm.le(h:Sm n)(k:m<=n):Sm m:=Av (zZv k) h
theorem Sm.of(h:n<340282366920938463463374607431768211456):Sm n:=by
 have:(dg n).length<=4:=by
  rw[dg];split
  ·simp
  rw[AU,dg];split
  ·simp
  rw[AU,dg];split
  ·simp
  rw[AU,dg];split
  ·simp
  rw[AU,dg,dif_pos (by omega)];simp
 unfold Sm;omega
theorem Sm.len(h:Sm n):(dg n).length<=1000:=h
theorem nadd_c(a b:Nat)(ha:Sm a)(hb:Sm b):Pure Am 229 [natD a,natD b] [] (natD (a+b)):=by
 have h:=add_c (dg a) (dg b) _ _ rfl rfl (by have:=ha.len;omega) (by have:=hb.len;omega) (zCw _) (zCw _);rwa[zCv,zCv]at h
theorem nmul_c(a b:Nat)(ha:Sm a)(hb:Sm b):Pure Am 230 [natD a,natD b] [] (natD (a*b)):=by
 have h:=mul_c (dg a) (dg b) _ _ rfl rfl (by have:=ha.len;omega) (by have:=hb.len;omega) (zCw _) (zCw _);rwa[zCv,zCv]at h
theorem ncmp_c(a b:Nat)(ha:Sm a)(hb:Sm b):Pure Am 14 [natD a,natD b] [] (iD (cmpD a b)):=by
 have h:=cmp_c (dg a) (dg b) _ _ rfl rfl (by have:=ha.len;omega) (by have:=hb.len;omega) (zCw _) (zCw _);rwa[zCv,zCv]at h
theorem natD_zero:natD 0= .row [] 0:=by simp[natD,digR,dg]
theorem zGe(l:List Nat)(k:Nat)(h:k<l.length):((l.map natD).drop k).headD .unk=natD (l.getD k 0):=zCe natD l 0 k h
theorem sum_le(l:List Nat)(k:Nat):(l.take k).sum<=l.sum:=by
 conv=>rhs;rw[<-Ch k l,List.sum_append]
 omega
end
def cntL(A:List Nat)(b:Nat):Nat:=(A.filter λv=>decide (v<b)).length
theorem zT7:∀{A:List Nat},A.Pairwise (· <·)->∀{v:Nat},v∈A->A.idxOf v=cntL A v
 |[],_,v,h=>by simp at h
 | a::A,hA,v,h=>by
  rw[A0]at hA;by_cases e:a=v
  ·subst e;have:A.filter (λv=>decide (v<a))=[]:=by
    rw[Cd];intro x hx
    have:=hA.1 x hx
    simp;omega
   simp[cntL,this]
  have hm:=(Bc.1 h).resolve_left λk=>e k.symm;have hlt:=hA.1 v hm
  have:=zT7 hA.2 hm
  have e':(a==v)=false:=by simpa using e
  rw[List.idxOf_cons,e',cond_false,this];simp[cntL,hlt]
theorem zZ0(hA:A.Pairwise (· <·))(h:v∈A):cntL A v<A.length/\A.getD (cntL A v) 0=v:=by
 rw[<-zT7 hA h];grind
theorem cntL_no(h:v∉A)(hl:cntL A v<A.length):A.getD (cntL A v) 0≠v:=by grind
def bdU(U:List Nat)(t:Nat):Nat:=U.getD t 32
variable{U:List Nat}{t:Nat}
theorem bdU_lt(h:∀v∈U,v<32)(ht:t<U.length):bdU U t∈U:=by
 grind [bdU,AL,Ci]
theorem cntL_add{p q:Nat->Bool}:∀(A:List Nat),(∀x∈A,¬(p x=Ab/\q x=Ab))->(A.filter λx=>p x||q x).length=(A.filter p).length+(A.filter q).length
 |[],_=>rfl
 |a::A,h=>by
  have ih:=cntL_add A λx hx=>h x (BA _ hx);have ha:=h a (List.mem_cons_self ..);cases h1:p a<;>cases h2:q a
  ·simp[h1,h2,ih]
  ·simp[h1,h2,ih];omega
  ·simp[h1,h2,ih];omega
  exact absurd ⟨h1,h2⟩ ha
theorem zRx:∀{A:List Nat},A.Nodup->∀v,(A.filter λx=>decide (x=v)).length=if v∈A then 1 else 0
 |[],_,v=>by simp
 |a::A,h,v=>by
  rw[List.nodup_cons]at h;have ih:=zRx h.2 v;grind
theorem zXx(hU:Asc U)(hA:A.Nodup)(hAU:∀v∈A,v∈U)(ht:t<U.length):cntL A (bdU U (t+1))=cntL A (bdU U t)+if bdU U t∈A then 1 else 0:=by
 have hget:bdU U t=U[t]:=by unfold bdU;rw[AN,AL ht];rfl
 have hlt:bdU U t<bdU U (t+1):=by
  rcases Ax (t+1) U.length with h|h
  ·have h2:bdU U (t+1)=U[t+1]:=by unfold bdU;rw[AN,AL h];rfl
   rw[hget,h2];exact BI.1 hU.1 t (t+1) ht h (by omega)
  have h2:bdU U (t+1)=32:=by unfold bdU;rw[AN,Bf h];rfl
  rw[hget,h2];exact hU.2 _ (Ci ht)
 have key:∀x∈A,decide (x<bdU U (t+1))=(decide (x<bdU U t)||decide (x=bdU U t)):=by
  intro x hx;obtain⟨j,hj,rfl⟩:=BB (hAU x hx);rw[B9];simp only[A4,decide_eq_true_eq];have mono:∀i k (hi:i<U.length)(hk:k<U.length),i<k->U[i]<U[k]:=λi k hi hk h=>BI.1 hU.1 i k hi hk h;constructor
  ·intro h;rcases Nat.lt_trichotomy j t with h1|h1|h1
   ·grind
   ·grind
   exfalso;have h3:t+1<U.length:=by omega
   have h2:bdU U (t+1)=U[t+1]:=by unfold bdU;rw[AN,AL h3];rfl
   grind
  rintro(h|h)<;>omega
 unfold cntL;rw[List.filter_congr key,cntL_add A λx hx=>by simp;omega,zRx hA]
theorem cntL0(hU:Asc U)(hAU:∀v∈A,v∈U):cntL A (bdU U 0)=0:=by
 unfold cntL;rw[List.length_eq_zero_iff,Cd];intro x hx;obtain⟨j,hj,rfl⟩:=BB (hAU x hx);have h2:bdU U 0=U[0]:=by unfold bdU;rw[AN,AL (by omega)];rfl
 rw[h2];simp only[decide_eq_true_eq];rcases BJ j with e|e
 ·subst e;omega
 have:=BI.1 hU.1 0 j (by omega) hj e;omega
theorem bdU_getD(h:t<U.length):U.getD t 0=bdU U t:=by
 grind [bdU,AL]
theorem mg_take(A:List Nat)(x:List Va)(B:List Nat)(y:List Va)(t:Nat)(ht:t<(un A B).length):((un A B).take (t+1)).map (sg A x B y)=((un A B).take t).map (sg A x B y)++[sg A x B y (bdU (un A B) t)]:=by
 grind [B8,bdU,AL]
theorem asg_cnt(hA:A.Pairwise (· <·))(x:List Va)(h:v∈A):asg A x v=x.getD (cntL A v) default:=by
 rw[asg,zT7 hA h]
variable{V:List Int}{R:List Rw}{p:Nat->Bool}
section
open Go.RowKit
theorem zB0(V:List Int)(i:Nat)(h:i<V.length):((V.map λz=>iD z).drop i).headD .unk=iD (V.getD i 0):=by simp_all
theorem zAo(l:List α)(d:α)(k:Nat)(h:k<l.length):l.getD k d∈l:=by grind
def zFb(n:Int)(V:List Int)(i:Nat):Bool:=decide (0<=V.getD i 0)&&(decide (V.getD i 0<n)&&(decide (i=0)||decide (V.getD (i-1) 0<V.getD i 0)))
def zLs(R:List Rw)(i:Nat):Bool:=decide (i=0)||decide (rcmp (R.getD (i-1) []) (R.getD i [])<0)
def chk(n:Int)(V:List Int)(R:List Rw)(m:Nat):Int:=
 if(Aw V.length).all (zFb n V)=Ac then 3 else if R.length≠m then 6 else if R.all (λx=>decide (x.length=V.length))=Ac then 6 else if R.all (λx=>x.all vok)=Ac then 4 else if(Aw R.length).all (zLs R)=Ac then 16 else 0
theorem zV8(h:i<n)(hp:p i=Ac):(Aw n).all p=false:=by
 grind
theorem zGp(h:∀j,j<n->p j=Ab):(Aw n).all p=true:=by
 grind
theorem zLk{n:Int}(h1:0<=V.getD i 0)(h2:V.getD i 0<n)(h3:i=0\/V.getD (i-1) 0<V.getD i 0):zFb n V i=true:=by
 simp only[zFb,Bq,A4,decide_eq_true_eq];exact⟨h1,h2,h3⟩
theorem chk_v{n:Int}(h:i<V.length)(hp:zFb n V i=Ac):chk n V R m=3:=by
 grind [chk,zV8]
theorem chk_l{n:Int}(hv:(Aw V.length).all (zFb n V)=Ab)(h:R.length≠m):chk n V R m=6:=by
 grind [chk]
theorem chk_a{n:Int}(hv:(Aw V.length).all (zFb n V)=Ab)(hl:R.length=m)(h:i<R.length)(hp:(R.getD i []).length≠V.length):chk n V R m=6:=by
 unfold chk;grind
theorem chk_o{n:Int}(hv:(Aw V.length).all (zFb n V)=Ab)(hl:R.length=m)(ha:R.all (λx=>decide (x.length=V.length))=Ab)(h:i<R.length)(hp:(R.getD i []).all vok=Ac):chk n V R m=4:=by
 unfold chk;grind
theorem chk_s{n:Int}(hv:(Aw V.length).all (zFb n V)=Ab)(hl:R.length=m)(ha:R.all (λx=>decide (x.length=V.length))=Ab)(ho:R.all (λx=>x.all vok)=Ab)(h:i<R.length)(hp:zLs R i=Ac):chk n V R m=16:=by
 grind [chk,zV8]
theorem chk_0{n:Int}(hv:(Aw V.length).all (zFb n V)=Ab)(hl:R.length=m)(ha:R.all (λx=>decide (x.length=V.length))=Ab)(ho:R.all (λx=>x.all vok)=Ab)(hs:(Aw R.length).all (zLs R)=Ab):chk n V R m=0:=by
 grind [chk]
theorem zEm{p:α->Bool}{l:List α}{d:α}(h:l.length<=i)(hh:∀j,j<i->j<l.length->p (l.getD j d)=Ab):l.all p=true:=by
 grind [A9,List.mem_iff_getElem,AL]
structure Fit(n:Int)(A:List Nat)(R:List Rw)(m:Nat):Prop where
 asc:A.Pairwise (· <·)
 lt:∀v∈A,(v:Int)<n
 m:R.length=m
 len:∀r∈R,r.length=A.length
 vok:∀r∈R,r.all vok=Ab
 srt:R.Pairwise λp q=>rcmp p q<0
theorem zPf{α:Type}{q:α->α->Prop}(tr:∀a b c,q a b->q b c->q a c){d:α}:∀{l:List α},(∀i,i+1<l.length->q (l.getD i d) (l.getD (i+1) d))->l.Pairwise q
 |[],_=>Cb.nil
 |[a],_=>by simp
 |a::b::l,h=>by
  have h0:q a b:=h 0 (by simp);have ih:(b::l).Pairwise q:=zPf tr (d:=d) λi hi=>h (i+1) (by simpa using hi);grind [A0]
theorem zCj{n:Int}(h:chk n V R m=0):∃A:List Nat,V=A.map (λv:Nat=>(v:Int))/\Fit n A R m:=by
 unfold chk at h;split at h
 ·cases h
 rename_i h1;split at h
 ·cases h
 rename_i h2;split at h
 ·cases h
 rename_i h3;split at h
 ·cases h
 rename_i h4;split at h
 ·cases h
 rename_i h5;simp only[Bool.not_eq_false,A9,AX,decide_eq_true_eq]at h1 h3 h4 h5;have hs:∀i,i<V.length->0<=V.getD i 0/\V.getD i 0<n/\(i=0\/V.getD (i-1) 0<V.getD i 0):=λi hi=>by
  have:=h1 i hi
  simpa only[zFb,Bq,A4,decide_eq_true_eq]using this
 have hV:V=(V.map Ao).map (λv:Nat=>(v:Int)):=by
  apply B5 (by simp);grind
 have hget:∀i,i<V.length->(V.getD i 0)=((V.map Ao).getD i 0:Nat):=λi hi=>by
  grind
 refine⟨V.map Ao,hV,?_,λv hv=>?_,by simpa using h2,λr hr=>by simpa using h3 r hr,λr hr=>by simpa[A9]using h4 r hr,?_⟩
 ·refine zPf (q:=λa b:Nat=>a<b) (d:=0) (λa b c h k=>Nat.lt_trans h k) λi hi=>?_;grind
 ·obtain⟨u,hu,rfl⟩:=Bn.1 hv;obtain⟨i,hi,rfl⟩:=List.mem_iff_getElem.1 hu
  have:=(hs i hi)
  grind
 refine zPf (d:=[]) zYy λi hi=>?_;grind [zLs]
end
section
open Go.RowKit
attribute [local irreducible] seqW awp zY zZ zR Weak updS zAe retL Pure Acts rP setP setQ cP nP fr
set_option maxRecDepth 4096
abbrev rwB(l:List D):Bk:=⟨l,110,1,Ab,Ac, .plain⟩
def Tr:Par:=⟨λf=>f==114||f==151||f==112||f==115,λ_ _=>AA,λk=>decide (k<1),λ_=>Ac,λ_=>Ac⟩
theorem Tr_ok:zBg Am Tr:=by intro t n f h;cases h
theorem keepR(h:st.length=1):∀k,k<st.length->Tr.keep k=true:=λk hk=>by
 show decide (k<1)=Ab;rw[decide_eq_true_eq];omega
theorem zK4:∀k,1<=k->Tr.keep k=false:=λk hk=>by
 show decide (k<1)=Ac;rw[decide_eq_false_iff_not];omega
theorem blenR_c(n:Nat)(hn:n<18446744073709551616):Pure Am 152 [.val (.int .u64 n)] [] (.val (.int .i64 (A7 n))):=
 zC6 (us:=[.int .u64 n]) (λw=>(Tryz.bits_Len n w (by omega) (by omega)).mono λe w' h=>⟨by rw[h.1];simp,h.2.symm⟩)
theorem zCd(l:List (List Va))(k:Nat)(h:k<l.length:=by omega):((l.map rowV).drop k).headD .unk=rowV (l.getD k []):=zCe rowV l [] k h
def wStep(R:List Rw)(j:Nat):Bool:=decide (j=0)||!decide (rcmp (R.getD j []) (R.getD (j-1) [])<0)
def srtB(R:List Rw):Bool:=(Aw R.length).all (wStep R)
abbrev cmpF:D:= .clo (.func 113) [] []
set_option maxHeartbeats 1000000 in
theorem zRr(rows:List Rw)(n:Nat)(hn:rows.length=n)(hb:n<=2000000)(hl:∀r∈rows,r.length<=2000000):Acts Am 112 [.osl 0 0 n n Ab,cmpF] [rwB (rows.map rowV)] [] (bD (srtB rows)) [rwB (rows.map rowV)]:=by
 subst hn;refine zS Tr_ok mixed Tryz.func112 rfl (keepR rfl)<|vAu<|zA<|vA<|ve (i6 ((Aa rows:Int)-(1:Int)))<|zF<|zN (λ(k:Nat)=>fr 25 [(0,Ag 0 0 (Aa rows) (Aa rows) Ab),(1,cmpF),(5,iD ((k:Int)-(1:Int)))]) (λ(k:Nat)=>[rwB<|rows.map rowV]) (λ(k:Nat)=>k) (λ(k:Nat)=>k<=rows.length/\∀j,k<=j->j<rows.length->wStep rows j=Ab) rows.length ?_ ?_ ?_
 ·grind
 ·refine vk 1 ?_;exact zK4
 rintro k ⟨h1,h2⟩;rcases Ax 1 k with h3|h3
 ·obtain⟨m,rfl⟩:∃m,k=m+2:=⟨k-2,by omega⟩;have hx:=zCd rows (m+1);have hy:=zCd rows m;have e1:((m+2:Nat):Int)-1=((m+1:Nat):Int):=by omega
  have e2:((m+1:Nat):Int)-1=(m:Int):=by omega
  have l1:=hl _ (zAo rows [] (m+1) (by omega));have l2:=hl _ (zAo rows [] m (by omega));have hw:wStep rows (m+1)=!decide (rcmp (rows.getD (m+1) []) (rows.getD m [])<0):=by simp[wStep]
  have hno:wStep rows (m+1)=Ac->srtB rows=false:=λh=>zV8 (by omega) h;generalize rows.getD (m+1) []=r at*;generalize rows.getD m []=s at*;have hcm:=zDr r s _ _ rfl rfl (by omega) (by omega);focus
   refine zA<|vAs<|vrT 1<|vs 9 (iD (↑(m+2)-1)) (iD ↑(m+1))<|veT<|vT ((↑(m+1):Int)>(0:Int))<|vKB<|zA<|vd [0,1,2,3,5,6,7,8,4,9,10,11]<|vrT 3<|vs 15 (iD (↑(m+2)-1)) (iD ↑(m+1))<|vr 1 ((0:Int)<=(↑(m+1):Int)/\(↑(m+1):Int)<(Aa rows:Int))<|vo 16 0 (m+1)<|vrT 2<|vs 19 (iD (↑(m+2)-1)) (iD ↑(m+1))<|vr 1 (i6 (↑(m+1)-1))<|vs 20 (iD (↑(m+1)-1)) (iD m)<|vr 1 ((0:Int)<=(m:Int)/\(m:Int)<↑(Aa rows))<|vo 21 0 m<|vr 1 (0<Aa (Ak (m+1)<|AD<|rwB<|Af rowV rows))<|vsh 17 hx<|vr 1 (0<Aa (Ak m<|AD<|rwB<|Af rowV rows))<|vsh 22 hy<|vc hcm<|veT<|vcD (rcmp r s<0) (λhc=>?_)<|λhc=>?_;refine vAe<|zG<|zH<|zE<|zE<|zH<|zE<|zT (True) [Al<|A3 Ac] (.inr rfl) ?_;rotate_left;refine zL<|zD<|vN<|zB rfl<|vrT 1<|vs 11 (iD (↑(m+2)-1)) (iD ↑(m+1))<|vr 1 (i6 (↑(m+1)-1))<|vs 12 (iD (↑(m+1)-1)) (iD m)<|vrT 1<|vnil<|zC ?_;rotate_left
  ·rw[hno (by rw[hw];simpa using hc)];exact⟨by kernel_rfl,by kernel_rfl⟩
  refine⟨m+1,⟨by omega,λj j1 j2=>?_⟩,by omega,?_⟩
  ·grind
  refine wk 5 (iD (↑m:Int)) (iD ((↑(m+1):Int)-(1:Int))) (by simp) (vk 1 ?_);exact zK4
 have hy:srtB rows=true:=zGp λj hj=>by
  rcases BJ j with h|h
  ·subst h;rfl
  exact h2 j (by omega) hj
 rw[hy];refine zA<|vAu<|vF ((k:Int)-(1:Int)>(0:Int))<|vZ2<|vAe<|zG<|zT (True) [Al<|A3 Ab] (.inr rfl) ?_;exact⟨by kernel_rfl,by kernel_rfl⟩
set_option maxHeartbeats 1000000 in
theorem sortR_a(rows:List Rw)(n:Nat)(hn:rows.length=n)(hb:n<=2000000)(hpos:0<n)(hl:∀r∈rows,r.length<=2000000):Acts Am 114 [.osl 0 0 n n Ab,cmpF] [rwB (rows.map rowV)] [] (.tup []) [rwB ((zQu rows).map rowV)]:=by
 have hlim:A7 n<4611686018427387904:=Bv (Lib.bitLen_le n 62 (by omega) (by omega)) (by omega);have hp:=pdq_rows (st:=[rwB (rows.map rowV)]) (k:=0) (lim:=A7 n) (wh:=Ab) (g:=113) (caps:=[]) (caps':=[]) (ks:=[]) rfl rfl rfl rfl rfl hn hb hpos hlim rfl (by simp) (enters_of Tryz.func113 (by kernel_rfl) rfl)
  (λx hx y hy=>zDr x y _ _ rfl rfl (by have:=hl x hx;omega) (by have:=hl y hy;omega))
 refine zS Tr_ok mixed Tryz.func114 rfl (keepR rfl)<|vAu<|zB rfl<|vr 4 (u6 (n:Int))<|vc (blenR_c n (by omega))<|vrT 1<|vnt [rwB<|Af rowV rows]<|zAi [] [] [Ag 0 0 n n Ab,iD 0,iD (n:Int),iD (↑(A7 n):Int),AB (Fn.func 113) [] []] [Ag 0 0 n n Ab,iD 0,iD (n:Int),iD (↑(A7 n):Int),AB (Fn.func 113) [] []] (Az _) (by exact hp) ?_;refine vnil<|zT (True) [] (.inl rfl) ?_;exact⟨by kernel_rfl,by kernel_rfl⟩
end
variable{p:Nat}
section
open Go.RowKit
def uqA(p:Rw):List Rw->List Rw
 |[]=>[]
 |b::l=>if b=p then uqA b l else b::uqA b l
def uq:List Rw->List Rw
 |[]=>[]
 |a::l=>a::uqA a l
theorem uqA_snoc(b:Rw):∀(l:List Rw)(p:Rw),uqA p (l++[b])=if b=l.getLastD p then uqA p l else uqA p l++[b]
 |[],p=>by
  grind [uqA]
 |c::l,p=>by
  have ih:=uqA_snoc b l c;rw[Br,List.getLastD_cons];simp only[uqA,ih];split<;>split<;>simp
theorem uq_snoc(a b:Rw)(l:List Rw):uq (a::l++[b])=if b=l.getLastD a then uq (a::l)else uq (a::l)++[b]:=by
 show a::uqA a (l++[b])=_;rw[uqA_snoc];split<;>rfl
theorem uq_take(rows:List Rw)(h0:0<p)(h:p<rows.length):uq (rows.take (p+1))=if rows.getD p []=rows.getD (p-1) []then uq (rows.take p)else uq (rows.take p)++[rows.getD p []]:=by
 obtain⟨q,rfl⟩:∃q,p=q+1:=⟨p-1,by omega⟩;match rows,h with
 | a::l,h=>
  simp only[AU]at h;have e1:(a::l).take (q+1+1)=a::l.take q++[(a::l).getD (q+1) []]:=by
   simp_all
  have e2:(l.take q).getLastD a=(a::l).getD (q+1-1) []:=by
   grind
  grind [uq_snoc]
variable{l:List Rw}
theorem uq_mem{x:Rw}(h:x∈uq l):x∈l:=by
 have key:∀(l:List Rw)(p:Rw),x∈uqA p l->x∈l:=by
  intro l;induction l with
  |nil=>intro p h;simp[uqA]at h
  |cons b l ih=>
   intro p h;simp only[uqA]at h;grind
 match l,h with
 |a::l,h=>
  rcases Bc.1 h with rfl|h;all_goals grind
theorem uq_len(l:List Rw):(uq l).length<=l.length:=by
 have key:∀(l:List Rw)(p:Rw),(uqA p l).length<=l.length:=by
  intro l;induction l with
  |nil=>intro p;simp[uqA]
  |cons b l ih=>
   intro p
   have:=ih b
   simp only[uqA];grind
 cases l with
 |nil=>simp[uq]
 |cons a l=>
  have:=key l a
  simp only[uq,AU];omega
theorem uq_one(h:l.length<2):uq l=l:=by
 match l,h with
 |[],_=>rfl
 |[a],_=>rfl
theorem uq_adj(h:uq rows=rows)(h0:0<p)(hp:p<rows.length):¬rows.getD p []=rows.getD (p-1) []:=by
 have key:∀(l:List Rw)(a:Rw),uqA a l=l->(a::l).Pairwise (λ_ _=>True)->∀q,q<l.length->l.getD q []≠(a::l).getD q []:=by
  intro l;induction l with
  |nil=>intro a _ _ q hq;simp at hq
  | cons b l ih=>
   intro a h _ q hq;simp only[uqA]at h;have hba:b≠a:=λe=>by
    rw[if_pos e]at h;have:(uqA b l).length<=l.length:=by
     have:=uq_len (b::l)
     simp only[uq,AU]at this;omega
    grind
   grind
 match rows,h,hp with
 |a::l,h,hp=>
  grind [uq,List.pairwise_iff_forall_sublist]
end
section
open Go.RowKit
attribute [local irreducible] seqW awp zY zZ zR Weak updS zAe retL Pure Acts rP setP setQ cP nP fr
set_option maxRecDepth 4096
abbrev eqlF:D:= .clo (.func 116) [] []
theorem set_rwV(l:List Rw)(i:Nat)(r:Rw):(l.map rowV).set i (rowV r)=(l.set i r).map rowV:=by simp
theorem zGr(n:Nat)(d:D):repL n [d]=AF n d:=by
 induction n with
 |zero=>rfl
 |succ n ih=>simp only[repL,Cf,List.flatten_cons]at ih⊢;rw[ih];rfl
theorem getD_setR(l:List Rw)(i j:Nat)(r:Rw)(h:i<j):(l.set i r).getD j []=l.getD j []:=by
 grind
theorem take_setR(l:List Rw)(i:Nat)(r:Rw)(h:i<l.length):(l.set i r).take (i+1)=l.take i++[r]:=by
 rw[List.take_set,B8 h,List.set_append];simp[Bw (BO h)]
set_option maxHeartbeats 4000000 in
theorem zXw(rows:List Rw)(n:Nat)(hn:rows.length=n)(hb:n<=2000000)(hl:∀r∈rows,r.length<=2000000):∃t:List D,Acts Am 115 [.osl 0 0 n n Ab,eqlF] [rwB (rows.map rowV)] [] (.osl 0 0 (uq rows).length (uq rows).length Ab) [rwB ((uq rows).map rowV++t)]:=by
 subst hn;by_cases hu:uq rows=rows
 ·refine⟨[],?_⟩;rw[hu,List.append_nil];refine zS Tr_ok mixed Tryz.func115 rfl (keepR rfl) ?_;by_cases h2:rows.length<2
  ·refine vAu<|zA<|vAe<|vT ((Aa rows:Int)<(2:Int))<|vAe<|zG<|zE<|zT (True) [Ag 0 0 (Aa rows) (Aa rows) Ab] (.inr rfl) ?_;exact⟨by kernel_rfl,by kernel_rfl⟩
  refine vAu<|zA<|vAe<|vF ((Aa rows:Int)<(2:Int))<|vK<|zA<|vAe<|zF<|zN (λ(k:Nat)=>fr 66 [(0,Ag 0 0 (Aa rows) (Aa rows) Ab),(1,eqlF),(5,iD k)]) (λ(k:Nat)=>[rwB<|rows.map rowV]) (λ(k:Nat)=>rows.length-k) (λ(k:Nat)=>0<k/\k<=rows.length) 1 ?_ ?_ ?_
  ·omega
  ·refine vk 1 ?_;exact zK4
  rintro k ⟨k0,k1⟩;rcases Ax k rows.length with k3|k3
  ·obtain⟨m,rfl⟩:∃m,k=m+1:=⟨k-1,by omega⟩;have hx:=zCd rows (m+1);have hy:=zCd rows m;have e2:((m+1:Nat):Int)-1=(m:Int):=by omega
   have l1:=hl _ (zAo rows [] (m+1) (by omega));have l2:=hl _ (zAo rows [] m (by omega));have hne:=uq_adj hu (by omega) k3;rw[A8]at hne;generalize rows.getD (m+1) []=r at*;generalize rows.getD m []=s at*;have hcm:=zKk r s _ _ rfl rfl (by omega) (by omega);rw[decide_eq_false hne]at hcm;refine zA<|vAu<|vT ((↑(m+1):Int)<↑(Aa rows))<|vKB<|zA<|vd [0,1,2,3,5,6,7,8,4,9,10]<|vr 4 ((0:Int)<=(↑(m+1):Int)/\(↑(m+1):Int)<(Aa rows:Int))<|vo 21 0 (m+1)<|vr 3 (i6 (↑(m+1)-1))<|vs 25 (iD (↑(m+1)-1)) (iD m)<|vr 1 ((0:Int)<=(m:Int)/\(m:Int)<↑(Aa rows))<|vo 26 0 m<|vr 1 (0<Aa (Ak (m+1)<|AD<|rwB<|Af rowV rows))<|vsh 22 hx<|vr 1 (0<Aa (Ak m<|AD<|rwB<|Af rowV rows))<|vsh 27 hy<|vc hcm<|veT<|vf<|zL<|zD<|vN<|zB rfl<|vr 3 (i6 (↑(m+1)+1))<|vnil<|zC<|⟨m+1+1,⟨by omega,by omega⟩,by omega,?_⟩;refine vk 1 ?_;exact zK4
  refine zA<|vAu<|vF ((k:Int)<(Aa rows:Int))<|vZ2<|vAe<|zG<|zT (True) [Ag 0 0 (Aa rows) (Aa rows) Ab] (.inr rfl) ?_;exact⟨by kernel_rfl,by kernel_rfl⟩
 have h2:¬rows.length<2:=λh=>hu (uq_one h);refine⟨AF (rows.length-(uq rows).length) (.val (.slice AA 0 0)),?_⟩;refine zS Tr_ok mixed Tryz.func115 rfl (keepR rfl)<|vAu<|zA<|vAe<|vF ((Aa rows:Int)<(2:Int))<|vK<|zA<|vAe<|zF<|zN (λ(k:Nat)=>fr 66 [(0,Ag 0 0 (Aa rows) (Aa rows) Ab),(1,eqlF),(5,iD (k:Int))]) (λ(k:Nat)=>[rwB<|rows.map rowV]) (λ(k:Nat)=>rows.length-k) (λ(k:Nat)=>0<k/\k<=rows.length/\uq (rows.take k)=rows.take k) 1 ?_ ?_ ?_
 ·grind [uq_one]
 ·refine vk 1 ?_;exact zK4
 rintro k ⟨k0,k1,k2⟩;rcases Ax k rows.length with k3|k3;case inr=>exact absurd (by rw[Bg k3]at k2;exact k2) hu
 obtain⟨m,rfl⟩:∃m,k=m+1:=⟨k-1,by omega⟩;have hx:=zCd rows (m+1);have hy:=zCd rows m;have e2:((m+1:Nat):Int)-1=(m:Int):=by omega
 have l1:=hl _ (zAo rows [] (m+1) (by omega));have l2:=hl _ (zAo rows [] m (by omega));have ht:=uq_take rows (p:=m+1) (by omega) k3;rw[A8]at ht;by_cases he:rows.getD (m+1) []=rows.getD m [];case neg=>
  rw[if_neg he,k2]at ht;have ht2:uq (rows.take (m+1+1))=rows.take (m+1+1):=by
   simp_all
  generalize rows.getD (m+1) []=r at*;generalize rows.getD m []=s at*;have hcm:=zKk r s _ _ rfl rfl (by omega) (by omega);rw[decide_eq_false he]at hcm;refine zA<|vAu<|vT ((↑(m+1):Int)<↑(Aa rows))<|vKB<|zA<|vd [0,1,2,3,5,6,7,8,4,9,10]<|vr 4 ((0:Int)<=(↑(m+1):Int)/\(↑(m+1):Int)<(Aa rows:Int))<|vo 21 0 (m+1)<|vr 3 (i6 (↑(m+1)-1))<|vs 25 (iD (↑(m+1)-1)) (iD m)<|vr 1 ((0:Int)<=(m:Int)/\(m:Int)<↑(Aa rows))<|vo 26 0 m<|vr 1 (0<Aa (Ak (m+1)<|AD<|rwB<|Af rowV rows))<|vsh 22 hx<|vr 1 (0<Aa (Ak m<|AD<|rwB<|Af rowV rows))<|vsh 27 hy<|vc hcm<|veT<|vf<|zL<|zD<|vN<|zB rfl<|vr 3 (i6 (↑(m+1)+1))<|vnil<|zC<|⟨m+1+1,⟨by omega,by omega,ht2⟩,by omega,?_⟩;refine vk 1 ?_;exact zK4
 rw[if_pos he,k2]at ht;have hcm:=zKk (rows.getD (m+1) []) (rows.getD m []) _ _ rfl rfl (by omega) (by omega);rw[decide_eq_true he]at hcm;refine zA<|vAu<|vT ((↑(m+1):Int)<↑(Aa rows))<|vKB<|zA<|vd [0,1,2,3,5,6,7,8,4,9,10]<|vr 4 ((0:Int)<=(↑(m+1):Int)/\(↑(m+1):Int)<(Aa rows:Int))<|vo 21 0 (m+1)<|vr 3 (i6 (↑(m+1)-1))<|vs 25 (iD (↑(m+1)-1)) (iD m)<|vr 1 ((0:Int)<=(m:Int)/\(m:Int)<↑(Aa rows))<|vo 26 0 m<|vr 1 (0<Aa (Ak (m+1)<|AD<|rwB<|Af rowV rows))<|vsh 22 hx<|vr 1 (0<Aa (Ak m<|AD<|rwB<|Af rowV rows))<|vsh 27 hy<|vc hcm<|veT<|vt<|vA<|vr 3 ((0:Int)<=(↑(m+1):Int)/\True/\True/\0<1/\Ao (↑(m+1):Int)<=Aa rows/\Aa rows<=Aa rows/\Aa rows=Aa rows)<|vs 31 (Ag 0 (0+Ao (↑(m+1):Int)*1) (Aa rows-Ao (↑(m+1):Int)) ((Aa rows-Ao (↑(m+1):Int))*1) Ac) (Ag 0 (m+1) (Aa rows-(m+1)) (Aa rows-(m+1)) Ac)<|veT<|zA<|vAe<|zF<|zA0 (λ(q:Nat)(k:Nat)(R:List Rw)=>fr 66 [(0,Ag 0 0 (Aa rows) (Aa rows) Ab),(1,eqlF),(5,iD k),(6,Ag 0 (m+1) (Aa rows-(m+1)) (Aa rows-(m+1)) Ac),(7,iD q)]) (λ(q k:Nat)(R:List Rw)=>[rwB<|R.map rowV]) (λ(q k:Nat)(R:List Rw)=>rows.length-(m+1)-q) (λ(q k:Nat)(R:List Rw)=>0<q/\m+1+q<=rows.length/\k<=m+q/\0<k/\R.length=rows.length/\R.take k=uq (rows.take (m+1+q))/\(∀r∈R,r.length<=2000000)/\∀j,m+q<=j->R.getD j []=rows.getD j []) 1 (m+1) rows ?_ ?_ ?_
 ·grind
 ·refine vk 1 ?_;exact zK4
 clear hx hy e2 l1 l2 ht he hcm;rintro q k R ⟨q0,q1,q2,q3,q4,q5,q6,q7⟩;rcases Ax q (rows.length-(m+1))with q8|q8
 ·obtain⟨p,rfl⟩:∃p,q=p+1:=⟨q-1,by omega⟩;have hx:=zCd R (m+1+(p+1));have hy:=zCd R (m+1+p);have e2:((p+1:Nat):Int)-1=(p:Int):=by omega
  have l1:=q6 _ (zAo R [] (m+1+(p+1)) (by omega));have l2:=q6 _ (zAo R [] (m+1+p) (by omega));have ht:=uq_take rows (p:=m+1+(p+1)) (by omega) (by omega);rw[show m+1+(p+1)-1=m+1+p by omega,<-q7 (m+1+(p+1)) (by omega),<-q7 (m+1+p) (by omega),<-q5]at ht;have ht2:=take_setR R k (R.getD (m+1+(p+1)) []) (by omega);have hst:=set_rwV R k (R.getD (m+1+(p+1)) []);have hgs:=λj (h:k<j)=>getD_setR R k j (R.getD (m+1+(p+1)) []) h;have hms:∀r∈R.set k (R.getD (m+1+(p+1)) []),r.length<=2000000:=λr hr=>by
   grind
  by_cases he:R.getD (m+1+(p+1)) []=R.getD (m+1+p) []
  ·rw[if_pos he]at ht;have hcm:=zKk (R.getD (m+1+(p+1)) []) (R.getD (m+1+p) []) _ _ rfl rfl (by omega) (by omega);rw[decide_eq_true he]at hcm;refine zA<|vAu<|vT ((↑(p+1):Int)<(↑(Aa rows-(m+1)):Int))<|vKB<|zA<|vd [0,1,2,3,5,6,7,8,4,9,10,11]<|vr 4 ((0:Int)<=(↑(p+1):Int)/\(↑(p+1):Int)<(↑(Aa rows-(m+1)):Int))<|vs 41 (Ae 0 (m+1+Ao (↑(p+1):Int)*1)) (Ae 0 (m+1+(p+1)))<|vr 3 (i6 (↑(p+1)-1))<|vs 45 (iD (↑(p+1)-1)) (iD p)<|vr 1 ((0:Int)<=(p:Int)/\(p:Int)<(↑(Aa rows-(m+1)):Int))<|vs 46 (Ae 0 (m+1+Ao (p:Int)*1)) (Ae 0 (m+1+p))<|vr 1 (0<Aa (Ak (m+1+(p+1))<|AD<|rwB<|Af rowV R))<|vsh 42 hx<|vr 1 (0<Aa (Ak (m+1+p)<|AD<|rwB<|Af rowV R))<|vsh 47 hy<|vc hcm<|veT<|vf<|zL<|zD<|vN<|zB rfl<|vr 3 (i6 (↑(p+1)+1))<|vnil<|zC<|⟨p+1+1,k,R,⟨by omega,by omega,by omega,by omega,q4,ht.symm,q6,λj hj=>q7 j (by omega)⟩,by omega,?_⟩;refine vk 1 ?_;exact zK4
  rw[if_neg he]at ht;have hcm:=zKk (R.getD (m+1+(p+1)) []) (R.getD (m+1+p) []) _ _ rfl rfl (by omega) (by omega);rw[decide_eq_false he]at hcm;refine zA<|vAu<|vT ((↑(p+1):Int)<(↑(Aa rows-(m+1)):Int))<|vKB<|zA<|vd [0,1,2,3,5,6,7,8,4,9,10,11]<|vr 4 ((0:Int)<=(↑(p+1):Int)/\(↑(p+1):Int)<(↑(Aa rows-(m+1)):Int))<|vs 41 (Ae 0 (m+1+Ao (↑(p+1):Int)*1)) (Ae 0 (m+1+(p+1)))<|vr 3 (i6 (↑(p+1)-1))<|vs 45 (iD (↑(p+1)-1)) (iD p)<|vr 1 ((0:Int)<=(p:Int)/\(p:Int)<(↑(Aa rows-(m+1)):Int))<|vs 46 (Ae 0 (m+1+Ao (p:Int)*1)) (Ae 0 (m+1+p))<|vr 1 (0<Aa (Ak (m+1+(p+1))<|AD<|rwB<|Af rowV R))<|vsh 42 hx<|vr 1 (0<Aa (Ak (m+1+p)<|AD<|rwB<|Af rowV R))<|vsh 47 hy<|vc hcm<|veT<|vt<|vA<|vr 5 ((0:Int)<=(↑(p+1):Int)/\(↑(p+1):Int)<(↑(Aa rows-(m+1)):Int))<|vs 54 (Ae 0 (m+1+Ao (↑(p+1):Int)*1)) (Ae 0 (m+1+(p+1)))<|vr 1 (0<Aa (Ak (m+1+(p+1))<|AD<|rwB<|Af rowV R))<|vsh 55 hx<|vr 1 ((0:Int)<=(k:Int)/\(k:Int)<↑(Aa rows))<|vo 56 0 k<|vr 1 (Bk.fz (rwB<|Af rowV R)=Ac/\Ab=Ab/\1=1/\k+1<=Aa (AD<|rwB<|Af rowV R)/\¬0∈[])<|vb 0 (Ai (setAt (AD<|rwB<|Af rowV R) k<|cellsOf<|AC (zM<|AK R (m+1+(p+1)) [])<|Aa<|AK R (m+1+(p+1)) []) (Bk.ty<|rwB<|Af rowV R) (Bk.sz<|rwB<|Af rowV R) Ab Ac<|Bk.kd<|rwB<|Af rowV R) (Ai (Af rowV<|List.set R k<|AK R (m+1+(p+1)) []) (110:TypeId) 1 Ab Ac Aj) (hd:=by simp(disch:=omega) only[cellsOf,setAt,hst])<|veT<|zB rfl<|vr 3 (i6 (↑k+1))<|vnil<|zD<|vN<|zB rfl<|vr 3 (i6 (↑(p+1)+1))<|vnil<|zC<|⟨p+1+1,k+1,R.set k<|R.getD (m+1+(p+1)) [],⟨by omega,by omega,by omega,by omega,by rw[AO];exact q4,by rw[ht2];exact ht.symm,hms,λj hj=>by rw[hgs j (by omega)];exact q7 j (by omega)⟩,by omega,?_⟩;refine vk 1 ?_;exact zK4
 obtain rfl:q=rows.length-(m+1):=by omega
 rw[show m+1+(rows.length-(m+1))=rows.length by omega,Bt]at q5;have hkl:(uq rows).length=k:=by rw[<-q5,BZ];omega
 rw[hkl,<-q5];have hcl:setAt (R.map rowV) k (repL (rows.length-k) [.val (.slice AA 0 0)])=(R.take k).map rowV++AF (rows.length-k) (.val (.slice AA 0 0)):=by
  have h1:=zHi ((R.drop k).map rowV) (repL (rows.length-k) [.val (.slice AA 0 0)]) ((R.take k).map rowV) (by rw[zGr];simp[q4]);grind [Ch,AV,BZ,Bw,zGr]
 refine zA<|vAu<|vF ((↑(Aa rows-(m+1)):Int)<(↑(Aa rows-(m+1)):Int))<|vZ2<|vA<|vr 3 ((0:Int)<=(k:Int)/\True/\True/\0<1/\Ao (k:Int)<=Aa rows/\Aa rows<=Aa rows/\Aa rows=Aa rows)<|vs 61 (Ag 0 (0+Ao (k:Int)*1) (Aa rows-Ao (k:Int)) ((Aa rows-Ao (k:Int))*1) Ac) (Ag 0 k (Aa rows-k) (Aa rows-k) Ac)<|ve (Bk.fz (rwB<|Af rowV R)=Ac/\Kd.isMap (Bk.kd<|rwB<|Af rowV R)=Ac/\0<1/\k+(Aa rows-k)*1<=Aa (AD<|rwB<|Af rowV R))<|vA<|vr 3 (True/\(0:Int)<=(k:Int)/\True/\0<1/\0<=Ao (k:Int)/\Ao (k:Int)<=Aa rows/\Ao (k:Int)=Ao (k:Int))<|vs 64 (Ag 0 0 (Ao (k:Int)-0) ((Ao (k:Int)-0)*1) Ab) (Ag 0 0 k k Ab)<|veT<|zG<|zH<|zE<|zE<|zH<|zE<|zT (True) [Ag 0 0 k k Ab] (.inr rfl) ?_;rw[<-hcl];exact⟨by kernel_rfl,by kernel_rfl⟩
def relR(rows:List Rw):List Rw:=uq (if srtB rows then rows else zQu rows)
theorem relR_len(rows:List Rw):(relR rows).length<=rows.length:=by
 unfold relR;refine Av (uq_len _) ?_;split
 ·exact Au _
 rw[(zDp rows).length_eq];exact Au _
abbrev relB(a b:D):Bk:=⟨[a,b],73,0,Ac,Ac, .plain⟩
def Tb:Par:=⟨λf=>f==114||f==112||f==115||f==67,λ_ _=>AA,λk=>decide (k<1),λ_=>Ac,λ_=>Ac⟩
theorem Tb_ok:zBg Am Tb:=by intro t n f h;cases h
theorem keepB(h:st.length=1):∀k,k<st.length->Tb.keep k=true:=λk hk=>by
 show decide (k<1)=Ab;rw[decide_eq_true_eq];omega
theorem keepBF:∀k,1<=k->Tb.keep k=false:=λk hk=>by
 show decide (k<1)=Ac;rw[decide_eq_false_iff_not];omega
theorem zLr(I:Im)(w:World)(β:Be)(vs:List Value)(h:RelT I w β [.osl k 0 n m wh, .clo (.func g) [] []] vs):RelT I w (only β k) [.osl 0 0 n m wh, .clo (.func g) [] []] vs:=by
 grind [only,RelT,Rel]
theorem zTb{z:Int}(I:Im)(w:World)(β:Be)(vs:List Value)(h:RelT I w β [iD z, .osl k 0 n m wh] vs):RelT I w (only β k) [iD z, .osl 0 0 n m wh] vs:=by
 grind [only,RelT,Rel]
theorem set_kept(L:List Rw)(t:List D)(i:Nat)(h:i<L.length):(L.map rowV++t).set i (rowV (L.getD i []))=L.map rowV++t:=by
 grind [List.map_set,AL,List.set_getElem_self]
theorem zRs(L:List Rw)(t:List D)(i:Nat)(h:i<L.length):((L.map rowV++t).drop i).headD .unk=rowV (L.getD i []):=by
 rw[List.drop_append_of_le_length (by simp;omega)];simp_all
set_option maxHeartbeats 2000000 in
theorem build_a(ar:Int)(rows:List Rw)(n:Nat)(hn:rows.length=n)(hb:n<=2000000)(hU65:(relR rows).length<=65536)(hl:∀r∈rows,r.length<=2000000):∃t:List D,Acts Am 67 [iD ar, .osl 0 0 n n Ab] [rwB (rows.map rowV)] [] (.tup [.agg [iD ar, .osl 0 0 (relR rows).length (relR rows).length Ab],iD 0]) [rwB ((relR rows).map rowV++t)]:=by
 obtain⟨S,hS⟩:∃S,S=if srtB rows then rows else zQu rows:=⟨_,rfl⟩
 have hSl:S.length=n:=by
  rw[hS];split
  ·exact hn
  rw[(zDp rows).length_eq,hn]
 have hSm:∀r∈S,r.length<=2000000:=λr hr=>by
  grind [zDp]
 obtain⟨t,hc⟩:=zXw S n hSl (by omega) hSm;refine⟨t,?_⟩;have hu:=uq_len S;have hum:∀r∈uq S,r.length<=2000000:=λr hr=>hSm r (uq_mem hr);have hrel:relR rows=uq S:=by rw[hS];rfl
 rw[hrel]at hU65⊢;have hs:=zRr rows n hn (by omega) hl;have a1:=hs.atG (st:=[rwB (rows.map rowV),relB (iD 0) nl]) 0 rfl (AP rfl rfl) (AP rfl rfl) zLr;have a3:=hc.atG (st:=[rwB (S.map rowV),relB (iD 0) nl]) 0 rfl (AP rfl rfl) (AP rfl rfl) zLr;generalize hU:uq S=U at*;have key:Acts Am 67 [iD ar, .osl 0 0 n n Ab] [rwB (rows.map rowV)] [] (.tup [.agg [iD ar, .osl 0 0 U.length U.length Ab],iD 0]) [rwB (U.map rowV++t),relB (iD ar) (.osl 0 0 U.length U.length Ab)]:=by
  cases hsb:srtB rows with
  | true=>
   rw[hsb]at hS a1;rw[if_pos rfl]at hS;subst hS;refine zS Tb_ok mixed B6 rfl (keepB rfl)<|vAu<|zA<|vA<|vrT 1<|vnt [rwB<|Af rowV S,Ai [iD 0,nl] 73 0 Ac Ac Aj]<|zAi [] [] [Ag 0 0 n n Ab,AB (Fn.func 113) [] []] [Ag 0 0 n n Ab,AB (Fn.func 113) [] []] (Az _) (by exact a1) ?_;refine v0s<|veT<|vf<|vK<|vA<|vrT 1<|vnt [Ai (Af rowV S) 110 1 Ab Ac Aj,Ai [iD 0,nl] 73 0 Ac Ac Aj]<|zAi [] [] [Ag 0 0 n n Ab,AB (Fn.func 116) [] []] [Ag 0 0 n n Ab,AB (Fn.func 116) [] []] (Az _) (by exact a3) ?_;refine v0s<|veT<|zA<|vAe<|vF ((Aa U:Int)>(65536:Int))<|vK<|zA<|vAe<|zF<|zN (λ(i:Nat)=>fr 35 [(0,iD ar),(1,Ag 0 0 (Aa U) (Aa U) Ab),(4,Ae 1 0),(5,iD 0),(19,iD<|Aa U),(20,iD i)]) (λ(i:Nat)=>[rwB (U.map rowV++t),relB (iD 0) nl]) (λ(i:Nat)=>U.length-i) (λ(i:Nat)=>i<=U.length) 0 ?_ ?_ ?_
   ·omega
   ·refine vk 2 ?_;grind [keepBF]
   rintro i h1;rcases Ax i U.length with h2|h2
   ·have hx:=zRs U t i h2;have hst:=set_kept U t i h2;have hlr:=hum _ (zAo U [] i h2);have hlc:i<(U.map rowV++t).length:=by simp;omega
    have hcl:=zQj (zM (U.getD i [])) (U.getD i []).length (zB6 _) (by omega);refine vAu<|zA<|vT ((i:Int)<↑(Aa U))<|vKB<|vAe<|zB rfl<|vr 5 ((0:Int)<=(i:Int)/\(i:Int)<↑(Aa U))<|vo 27 0 i<|vr 1 (0<Aa (Ak i<|AD<|rwB (Af rowV U++t)))<|vsh 28 hx<|vc hcl<|vr 1 ((0:Int)<=(i:Int)/\(i:Int)<↑(Aa U))<|vo 30 0 i<|vr 1 (Bk.fz (rwB (Af rowV U++t))=Ac/\Ab=Ab/\1=1/\i+1<=Aa (AD<|rwB (Af rowV U++t))/\¬0∈[])<|vb 0 (Ai (setAt (AD<|rwB (Af rowV U++t)) i<|cellsOf<|AC (zM<|AK U i [])<|Aa<|AK U i []) (Bk.ty<|rwB (Af rowV U++t)) (Bk.sz<|rwB (Af rowV U++t)) Ab Ac<|Bk.kd<|rwB (Af rowV U++t)) (Ai (Af rowV U++t) (110:TypeId) 1 Ab Ac Aj)<|vnil<|zD<|vN<|zB rfl<|vr 2 (i6 (↑i+1))<|vnil<|zC<|⟨i+1,by omega,by omega,?_⟩;refine vk 2 ?_;grind [keepBF]
   refine vAu<|zA<|vF ((i:Int)<(Aa U:Int))<|vZ2<|vA<|ve (ag_)<|zG<|zT (2<=2) [An [Al<|AQ AR ar,Ag 0 0 (Aa U) (Aa U) Ab],Al<|AQ AR (0:Int)] (.inr rfl) ?_ (hc:=by omega);exact⟨by kernel_rfl,by kernel_rfl⟩
  | false=>
   rw[hsb]at hS a1;rw[if_neg (by decide)]at hS;have hpos:0<n:=by
    rcases BJ n with h|h
    ·subst hn;rw[List.length_eq_zero_iff.1 h]at hsb;cases hsb
    exact h
   have a2:=(sortR_a rows n hn (by omega) hpos hl).atG (st:=[rwB (rows.map rowV),relB (iD 0) nl]) 0 rfl (AP rfl rfl) (AP rfl rfl) zLr;rw[<-hS]at a2;refine zS Tb_ok mixed B6 rfl (keepB rfl)<|vAu<|zA<|vA<|vrT 1<|vnt [rwB<|Af rowV rows,Ai [iD 0,nl] 73 0 Ac Ac Aj]<|zAi [] [] [Ag 0 0 n n Ab,AB (Fn.func 113) [] []] [Ag 0 0 n n Ab,AB (Fn.func 113) [] []] (Az _) (by exact a1) ?_;refine v0s<|veT<|vt<|zB rfl<|vrT 1<|vnt [Ai (Af rowV rows) 110 1 Ab Ac Aj,Ai [iD 0,nl] 73 0 Ac Ac Aj]<|zAi [] [] [Ag 0 0 n n Ab,AB (Fn.func 113) [] []] [Ag 0 0 n n Ab,AB (Fn.func 113) [] []] (Az _) (by exact a2) ?_;refine v0s<|veT<|vA<|vrT 1<|vnt [Ai (Af rowV S) 110 1 Ab Ac Aj,Ai [iD 0,nl] 73 0 Ac Ac Aj]<|zAi [] [] [Ag 0 0 n n Ab,AB (Fn.func 116) [] []] [Ag 0 0 n n Ab,AB (Fn.func 116) [] []] (Az _) (by exact a3) ?_;refine v0s<|veT<|zA<|vAe<|vF ((Aa U:Int)>(65536:Int))<|vK<|zA<|vAe<|zF<|zN (λ(i:Nat)=>fr 35 [(0,iD ar),(1,Ag 0 0 (Aa U) (Aa U) Ab),(4,Ae 1 0),(5,iD 0),(19,iD<|Aa U),(20,iD i)]) (λ(i:Nat)=>[rwB (U.map rowV++t),relB (iD 0) nl]) (λ(i:Nat)=>U.length-i) (λ(i:Nat)=>i<=U.length) 0 ?_ ?_ ?_
   ·omega
   ·refine vk 2 ?_;grind [keepBF]
   rintro i h1;rcases Ax i U.length with h2|h2
   ·have hx:=zRs U t i h2;have hst:=set_kept U t i h2;have hlr:=hum _ (zAo U [] i h2);have hlc:i<(U.map rowV++t).length:=by simp;omega
    have hcl:=zQj (zM (U.getD i [])) (U.getD i []).length (zB6 _) (by omega);refine vAu<|zA<|vT ((i:Int)<↑(Aa U))<|vKB<|vAe<|zB rfl<|vr 5 ((0:Int)<=(i:Int)/\(i:Int)<↑(Aa U))<|vo 27 0 i<|vr 1 (0<Aa (Ak i<|AD<|rwB (Af rowV U++t)))<|vsh 28 hx<|vc hcl<|vr 1 ((0:Int)<=(i:Int)/\(i:Int)<↑(Aa U))<|vo 30 0 i<|vr 1 (Bk.fz (rwB (Af rowV U++t))=Ac/\Ab=Ab/\1=1/\i+1<=Aa (AD<|rwB (Af rowV U++t))/\¬0∈[])<|vb 0 (Ai (setAt (AD<|rwB (Af rowV U++t)) i<|cellsOf<|AC (zM<|AK U i [])<|Aa<|AK U i []) (Bk.ty<|rwB (Af rowV U++t)) (Bk.sz<|rwB (Af rowV U++t)) Ab Ac<|Bk.kd<|rwB (Af rowV U++t)) (Ai (Af rowV U++t) (110:TypeId) 1 Ab Ac Aj)<|vnil<|zD<|vN<|zB rfl<|vr 2 (i6 (↑i+1))<|vnil<|zC<|⟨i+1,by omega,by omega,?_⟩;refine vk 2 ?_;grind [keepBF]
   refine vAu<|zA<|vF ((i:Int)<(Aa U:Int))<|vZ2<|vA<|ve (ag_)<|zG<|zT (2<=2) [An [Al<|AQ AR ar,Ag 0 0 (Aa U) (Aa U) Ab],Al<|AQ AR (0:Int)] (.inr rfl) ?_ (hc:=by omega);exact⟨by kernel_rfl,by kernel_rfl⟩
 exact key.cut 1 (by simp) rfl
set_option maxHeartbeats 2000000 in
theorem buildF_a(ar:Int)(rows:List Rw)(n:Nat)(hn:rows.length=n)(hb:n<=2000000)(hU65:65536<(relR rows).length)(hl:∀r∈rows,r.length<=2000000):∃t:List D,Acts Am 67 [iD ar, .osl 0 0 n n Ab] [rwB (rows.map rowV)] [] (.tup [.agg [iD 0,nl],iD 11]) [rwB ((relR rows).map rowV++t)]:=by
 obtain⟨S,hS⟩:∃S,S=if srtB rows then rows else zQu rows:=⟨_,rfl⟩
 have hSl:S.length=n:=by
  rw[hS];split
  ·exact hn
  rw[(zDp rows).length_eq,hn]
 have hSm:∀r∈S,r.length<=2000000:=λr hr=>by
  grind [zDp]
 obtain⟨t,hc⟩:=zXw S n hSl (by omega) hSm;refine⟨t,?_⟩;have hu:=uq_len S;have hum:∀r∈uq S,r.length<=2000000:=λr hr=>hSm r (uq_mem hr);have hrel:relR rows=uq S:=by rw[hS];rfl
 rw[hrel]at hU65⊢;have hs:=zRr rows n hn (by omega) hl;have a1:=hs.atG (st:=[rwB (rows.map rowV),relB (iD 0) nl]) 0 rfl (AP rfl rfl) (AP rfl rfl) zLr;have a3:=hc.atG (st:=[rwB (S.map rowV),relB (iD 0) nl]) 0 rfl (AP rfl rfl) (AP rfl rfl) zLr;generalize hU:uq S=U at*;have key:Acts Am 67 [iD ar, .osl 0 0 n n Ab] [rwB (rows.map rowV)] [] (.tup [.agg [iD 0,nl],iD 11]) [rwB (U.map rowV++t),relB (iD 0) nl]:=by
  cases hsb:srtB rows with
  |true=>
   rw[hsb]at hS a1;rw[if_pos rfl]at hS;subst hS;refine zS Tb_ok mixed B6 rfl (keepB rfl)<|vAu<|zA<|vA<|vrT 1<|vnt [rwB<|Af rowV S,Ai [iD 0,nl] 73 0 Ac Ac Aj]<|zAi [] [] [Ag 0 0 n n Ab,AB (Fn.func 113) [] []] [Ag 0 0 n n Ab,AB (Fn.func 113) [] []] (Az _) (by exact a1) ?_;refine v0s<|veT<|vf<|vK<|vA<|vrT 1<|vnt [Ai (Af rowV S) 110 1 Ab Ac Aj,Ai [iD 0,nl] 73 0 Ac Ac Aj]<|zAi [] [] [Ag 0 0 n n Ab,AB (Fn.func 116) [] []] [Ag 0 0 n n Ab,AB (Fn.func 116) [] []] (Az _) (by exact a3) ?_;refine v0s<|veT<|zA<|vAe<|vT ((Aa U:Int)>(65536:Int))<|vA<|ve (ah_)<|zG<|zE<|zT (2<=2) [An [q2_,nl],Al<|AQ AR 11] (.inr rfl) ?_ (hc:=by omega);exact⟨by kernel_rfl,by kernel_rfl⟩
  | false=>
   rw[hsb]at hS a1;rw[if_neg (by decide)]at hS;have hpos:0<n:=by
    grind
   have a2:=(sortR_a rows n hn (by omega) hpos hl).atG (st:=[rwB (rows.map rowV),relB (iD 0) nl]) 0 rfl (AP rfl rfl) (AP rfl rfl) zLr;rw[<-hS]at a2;refine zS Tb_ok mixed B6 rfl (keepB rfl)<|vAu<|zA<|vA<|vrT 1<|vnt [rwB<|Af rowV rows,Ai [iD 0,nl] 73 0 Ac Ac Aj]<|zAi [] [] [Ag 0 0 n n Ab,AB (Fn.func 113) [] []] [Ag 0 0 n n Ab,AB (Fn.func 113) [] []] (Az _) (by exact a1) ?_;refine v0s<|veT<|vt<|zB rfl<|vrT 1<|vnt [Ai (Af rowV rows) 110 1 Ab Ac Aj,Ai [iD 0,nl] 73 0 Ac Ac Aj]<|zAi [] [] [Ag 0 0 n n Ab,AB (Fn.func 113) [] []] [Ag 0 0 n n Ab,AB (Fn.func 113) [] []] (Az _) (by exact a2) ?_;refine v0s<|veT<|vA<|vrT 1<|vnt [Ai (Af rowV S) 110 1 Ab Ac Aj,Ai [iD 0,nl] 73 0 Ac Ac Aj]<|zAi [] [] [Ag 0 0 n n Ab,AB (Fn.func 116) [] []] [Ag 0 0 n n Ab,AB (Fn.func 116) [] []] (Az _) (by exact a3) ?_;refine v0s<|veT<|zA<|vAe<|vT ((Aa U:Int)>(65536:Int))<|vA<|ve (ah_)<|zG<|zE<|zT (2<=2) [An [q2_,nl],Al<|AQ AR 11] (.inr rfl) ?_ (hc:=by omega);exact⟨by kernel_rfl,by kernel_rfl⟩
 exact key.cut 1 (by simp) rfl
abbrev relD(ar:Int)(L:List Rw):D:= .agg [iD ar, .row (L.map rowV) L.length]
abbrev relZ:D:= .agg [iD 0, .row [] 0]
theorem rarity_c(ar:Int)(L:List D)(n:Nat):Pure Am 74 [.agg [iD ar, .row L n]] [] (iD ar):=by
 refine zJ zFz mixed Tryz.func74 rfl<|vAu<|vA<|ve (True/\0<2)<|zG<|vret (True)<|.inr rfl
theorem rlen_c(ar:Int)(L:List D)(n:Nat):Pure Am 76 [.agg [iD ar, .row L n]] [] (iD (n:Nat)):=by
 refine zJ zFz mixed Tryz.func76 rfl<|vAu<|vA<|ve (True/\0<1)<|zG<|vret (True)<|.inr rfl
theorem new_c(ar:Int)(h0:0<=ar)(h1:ar<=32):Pure Am 65 [iD ar] [] (.tup [.agg [iD ar, .row [] 0],iD 0]):=by
 refine zJ zFz mixed Tryz.func65 rfl<|vAu<|zA<|vA<|vew [] [(2,Ac)] (decide (ar<0)=Ac)<|vF (ar>(32:Int))<|vK<|vA<|ve (((1=1/\1<=2/\True)/\Ab=Ab)/\Ac=Ac/\Ab=Ab/\2=2/\2<=2)<|zG<|vret (2<=2)<|.inr rfl
def accE(ar:Int)(x:Rw):Int:=if(x.length:Int)≠ar then 6 else if x.all vok then 0 else 4
theorem accepts_c(ar:Int)(x:Rw)(hx:(x.length:Int)=ar->x.length<=2000000):Pure Am 66 [.agg [iD ar, .row [] 0],rowV x] [] (iD (accE ar x)):=by
 unfold accE;by_cases h:(x.length:Int)=ar
 ·have hv:=zSv x _ rfl (by have:=hx h;omega);subst h;rw[if_neg (λk=>k rfl)];cases hb:x.all vok
  ·rw[hb]at hv;refine zJ zFz mixed Tryz.func66 rfl<|vAu<|zA<|vA<|ve (aj_)<|zGf (t:=(Aa x:Int)!=(Aa x:Int)) (by kernel_rfl) (by simp)<|vK<|zA<|vA<|vrT 1<|vc (hv)<|veT<|vt<|vAe<|zG<|zE<|vret (True)<|.inr rfl
  rw[hb]at hv;refine zJ zFz mixed Tryz.func66 rfl<|vAu<|zA<|vA<|ve (aj_)<|zGf (t:=(Aa x:Int)!=(Aa x:Int)) (by kernel_rfl) (by simp)<|vK<|zA<|vA<|vrT 1<|vc (hv)<|veT<|vf<|vK<|vAe<|zG<|vret (True)<|.inr rfl
 rw[if_pos h];refine zJ zFz mixed Tryz.func66 rfl<|vAu<|zA<|vA<|ve (aj_)<|zFr (t:=(Aa x:Int)!=ar) (by kernel_rfl) (by simpa using by omega)<|vAe<|zG<|zE<|vret (True)<|.inr rfl
def accL(ar:Int):List Rw->Int
 |[]=>0
 |x::l=>if accE ar x≠0 then accE ar x else accL ar l
theorem accL_at{ar:Int}:∀{L:List Rw}{i:Nat},(∀j,j<i->accE ar (L.getD j [])=0)->i<L.length->accE ar (L.getD i [])≠0->accL ar L=accE ar (L.getD i [])
 |x::l,0,_,_,h=>by
  grind [accE,only,accL]
 |x::l,i+1,h,hi,he=>by
  have h0:accE ar x=0:=h 0 (by omega);simp only[accL];rw[if_neg (by rw[h0];exact λk=>k rfl)]
  have:=accL_at (ar:=ar) (L:=l) (i:=i) (λj hj=>by have:=h (j+1) (by omega);simpa using this) (by simpa using hi) (by simpa using he)
  rw[this];simp
theorem accL_0{ar:Int}:∀{L:List Rw},(∀j,j<L.length->accE ar (L.getD j [])=0)->accL ar L=0
 |[],_=>rfl
 |x::l,h=>by
  have h0:accE ar x=0:=h 0 (by simp);simp only[accL];rw[if_neg (by rw[h0];exact λk=>k rfl)];exact accL_0 λj hj=>by have:=h (j+1) (by simpa using hj);simpa using this
def rofE(ar:Int)(rows:List Rw):Int:=if accL ar rows≠0 then accL ar rows else if 65536<(relR rows).length then 11 else 0
set_option maxHeartbeats 2000000 in
theorem relOf2_c(ar:Int)(rows:List Rw)(n:Nat)(h0:0<=ar)(h32:ar<=32)(hn:rows.length=n)(hb:n<=2000000):Pure Am 36 [iD ar, .row (rows.map rowV) n] [] (if rofE ar rows=0 then .tup [relD ar (relR rows),iD 0]else .tup [relZ,iD (rofE ar rows)]):=by
 subst hn;have hnew:=new_c ar h0 h32;have hcl:=zZ2 (rows.map rowV) rows.length (by simp) (by omega);rw[AZ]at hcl;refine zJ zFz mixed Tryz.func36 rfl<|vAu<|vA<|vrT 1<|vc (hnew)<|ve (af_)<|zA<|vAe<|vf<|vK<|zA<|vAe<|zF<|zN (λ(i:Nat)=>fr 41 [(0,iD ar),(1,AC (Af rowV rows)<|Aa rows),(4,Ae 0 0),(6,Ae 1 0),(20,iD (Aa rows:Int)),(21,iD (i:Int))]) (λ(i:Nat)=>[relB (iD 0) nl,relB (iD ar)<|.row [] 0]) (λ(i:Nat)=>rows.length-i) (λ(i:Nat)=>i<=rows.length/\∀j,j<i->accE ar (rows.getD j [])=0) 0 ?_ ?_ ?_
 ·grind
 ·refine vk 2
 rintro i ⟨h1,h2⟩;rcases Ax i rows.length with h3|h3
 ·have hx:=zCd rows i (h:=h3);have hne:rows.map rowV≠[]:=zV;have hac:=accepts_c ar (rows.getD i []) (λh=>by omega);have hat:=accL_at h2 h3;by_cases he:accE ar (rows.getD i [])=0
  ·rw[he]at hac;refine vAu<|zA<|vT ((i:Int)<↑(Aa rows))<|vKB<|vAe<|zA<|vd [1,2,3,0,4,5,6]<|vr 3 (ix ↑i ↑(Aa rows) (Af rowV rows≠[]))<|vp 27 i (Af rowV rows)<|vr 2 (2<=2/\0<Aa (Ak i<|Af rowV rows))<|vsh 28 hx<|vc hac<|veT<|vAe<|vf<|zL<|zD<|vN<|zB rfl<|vr 2 (i6 (↑i+1))<|vnil<|zC<|⟨i+1,⟨by omega,λj hj=>?_⟩,by omega,?_⟩
   ·rcases Ax j i with h|h
    ·exact h2 j h
    obtain rfl:j=i:=by omega
    exact he
   refine vk 2
  have hat:=hat he;have hro:rofE ar rows=accE ar (rows.getD i []):=by unfold rofE;rw[if_pos (by rw[hat];exact he),hat]
  rw[hro,if_neg he];generalize accE ar (rows.getD i [])=e at*;refine vAu<|zA<|vT ((i:Int)<↑(Aa rows))<|vKB<|vAe<|zA<|vd [1,2,3,0,4,5,6]<|vr 3 (ix ↑i ↑(Aa rows) (Af rowV rows≠[]))<|vp 27 i (Af rowV rows)<|vr 2 (2<=2/\0<Aa (Ak i<|Af rowV rows))<|vsh 28 hx<|vc hac<|veT<|vAe<|zFr (t:=e !=(0:Int)) (by kernel_rfl) (by simpa using by omega)<|vA<|ve (ah_)<|zG<|zH<|zE<|zE<|zH<|zE<|vret (2<=2)<|.inr rfl
 have ha0:accL ar rows=0:=accL_0 λj hj=>h2 j (by omega);have hl:∀r∈rows,r.length<=2000000:=λr hr=>by
  obtain⟨j,hj,rfl⟩:=BB hr;have h4:=h2 j (by omega);rw[AN,AL hj]at h4;have h4:accE ar rows[j]=0:=h4;unfold accE at h4;split at h4
  ·omega
  omega
 by_cases hU:(relR rows).length<=65536
 ·have hro:rofE ar rows=0:=by unfold rofE;rw[if_neg (by rw[ha0];exact λk=>k rfl),if_neg (by omega)]
  obtain⟨t,hbu⟩:=build_a ar rows _ rfl hb hU hl;have hbk:∀(b0 b1:Bk),Acts Am 67 [iD ar, .osl 2 0 rows.length rows.length Ab] [b0,b1,rwB (rows.map rowV)] [] (.tup [.agg [iD ar, .osl 2 0 (relR rows).length (relR rows).length Ab],iD 0]) [b0,b1,rwB ((relR rows).map rowV++t)]:=λb0 b1=>
   hbu.atG (st:=[b0,b1,rwB (rows.map rowV)]) 2 rfl (AP rfl rfl) (AP rfl rfl) zTb
  have htk:((relR rows).map rowV++t).take (relR rows).length=(relR rows).map rowV:=BD (by simp);rw[hro,if_pos rfl];refine vAu<|zA<|vF ((i:Int)<↑(Aa rows))<|vZ2<|vA<|vrT 2<|vn hcl<|vnt [relB (iD 0) nl,relB (iD ar)<|AC [] 0,Ai (Af rowV rows) (110:TypeId) 1 Ab Ac Aj]<|zAi [] [] [iD ar,Ag 2 0 (Aa rows) (Aa rows) Ab] [iD ar,Ag 2 0 (Aa rows) (Aa rows) Ab] (Az _) (by exact hbk _ _) ?_;refine v0s<|ve (af_)<|zG<|zBt (2<=2) (D.tup [An [iD ar,AC (AH (Aa<|relR rows)<|Ak 0 (Af rowV (relR rows)++t))<|Aa<|relR rows],iD 0]) (D.tup [An [Al<|AQ AR ar,AC (Af rowV<|relR rows)<|Aa<|relR rows],Al<|AQ AR 0]) (.inr rfl) (by simp(disch:=omega) only[AY,htk]) rfl (hc:=by omega)
 have hro:rofE ar rows=11:=by unfold rofE;rw[if_neg (by rw[ha0];exact λk=>k rfl),if_pos (by omega)]
 obtain⟨t,hbu⟩:=buildF_a ar rows _ rfl hb (by omega) hl;have hbk:∀(b0 b1:Bk),Acts Am 67 [iD ar, .osl 2 0 rows.length rows.length Ab] [b0,b1,rwB (rows.map rowV)] [] (.tup [.agg [iD 0,nl],iD 11]) [b0,b1,rwB ((relR rows).map rowV++t)]:=λb0 b1=>
  hbu.atG (st:=[b0,b1,rwB (rows.map rowV)]) 2 rfl (AP rfl rfl) (AP rfl rfl) zTb
 rw[hro,if_neg (by decide)];refine vAu<|zA<|vF ((i:Int)<↑(Aa rows))<|vZ2<|vA<|vrT 2<|vn hcl<|vnt [relB (iD 0) nl,relB (iD ar)<|AC [] 0,Ai (Af rowV rows) (110:TypeId) 1 Ab Ac Aj]<|zAi [] [] [iD ar,Ag 2 0 (Aa rows) (Aa rows) Ab] [iD ar,Ag 2 0 (Aa rows) (Aa rows) Ab] (Az _) (by exact hbk _ _) ?_;refine v0s<|ve (af_)<|zG<|vret (2<=2)<|.inr rfl
theorem relOf_c(ar:Int)(rows:List Rw)(n:Nat)(h0:0<=ar)(h32:ar<=32)(hn:rows.length=n)(hb:n<=65536):Pure Am 36 [iD ar, .row (rows.map rowV) n] [] (if accL ar rows=0 then .tup [relD ar (relR rows),iD 0]else .tup [relZ,iD (accL ar rows)]):=by
 have h:=relOf2_c ar rows n h0 h32 hn (by omega);have hle:=relR_len rows;have e:rofE ar rows=accL ar rows:=by
  unfold rofE;split
  ·rfl
  rename_i h2;rw[if_neg (by omega)];exact(Classical.byContradiction λh3=>h2 λh4=>h3 h4.symm)
 rw[e]at h;exact h
def zDs(L:List Rw)(n:Nat):List D:=L.map rowV++AF (n-L.length) (.val (.slice AA 0 0))
theorem fillR_0(n:Nat):repL n [.val (.slice AA 0 0)]=zDs [] n:=by grind [zGr,zDs]
variable{L:List Rw}
theorem zXg(h:L.length<=n):(zDs L n).length=n:=by simp[zDs];omega
theorem zXf(L:List Rw)(n:Nat)(r:Rw)(h:L.length<n):(zDs L n).set L.length (rowV r)=zDs (L++[r]) n:=by
 unfold zDs;rw[List.set_append,if_neg (by simp)];simp only[AV,BN,List.map_append,BE,List.map_nil,AE,AU,List.length_nil,BL,Br,BV];congr 1;rw[show n-L.length=(n-(L.length+1))+1 by omega,Cf,List.set_cons_zero]
theorem zXh(L:List Rw):zDs L L.length=L.map rowV:=by simp[zDs]
theorem fillR_take(L:List Rw):(zDs L L.length).take L.length=L.map rowV:=by grind [zXh,Bg]
theorem zF2(L:List Rw)(i:Nat)(h:i<=L.length):(L.take i).length=i:=by grind
set_option maxHeartbeats 2000000 in
theorem rRows_c(ar:Int)(L:List Rw)(hb:L.length<=65536)(hl:∀r∈L,r.length<=2000000):Pure Am 17 [relD ar L] [] (.row (L.map rowV) L.length):=by
 refine zJ zFz mixed Tryz.func17 rfl<|vAu<|vA<|vr 5 (True/\0<1/\(0:Int)<=(Aa L:Int)/\(Aa L:Int)<=(Aa L:Int)/\(↑(24:Nat):Int)*(Aa L:Int)<=(281474976710656:Int)/\(Aa L:Int)<=(281474976710656:Int)/\0<1/\1=1)<|vs 3 (Ag 1 0 (Ao (Aa L:Int)) (Ao (Aa L:Int)*1) Ab) (Ag 1 0 (Aa L) (Aa L) Ab)<|veT<|zA<|vAe<|zF<|zN (λ(i:Nat)=>fr 25 [(1,Ae 0 0),(2,nl),(3,Ag 1 0 (Aa L) (Aa L) Ab),(10,iD (Aa L:Int)),(11,iD (i:Int))]) (λ(i:Nat)=>[relB (iD ar)<|.row (L.map rowV) L.length,rwB<|zDs (L.take i) L.length]) (λ(i:Nat)=>L.length-i) (λ(i:Nat)=>i<=L.length) 0 ?_ ?_ ?_
 ·omega
 ·refine wkn (fr 25 [(1,Ae 0 0),(2,nl),(3,Ag 1 0 (Aa L) (Aa L) Ab),(10,iD (↑(Aa L):Int)),(11,iD 0)]) [Ai [iD ar,AC (Af rowV L) (Aa L)] 73 0 Ac Ac Aj,Ai (repL (Aa L) [nl]) 110 1 Ab Ac (kdOf Ac)] (zH1 [(1,1),(2,1),(3,1),(10,1),(11,1)] (Ae 0 0=Ae 0 0/\nl=nl/\Ag 1 0 (Aa L) (Aa L) Ab=Ag 1 0 (Aa L) (Aa L) Ab/\iD (↑(Aa L):Int)=iD (↑(Aa L):Int)/\iD 0=iD (↑(0:Nat):Int)) 2 [] (by kernel_rfl) ⟨rfl,rfl,rfl,rfl,(by kernel_rfl)⟩ (by kernel_rfl) (λ_ _=>rfl) (by simp[updB,fillR_0,zEr]))
 rintro i h1;rcases Ax i L.length with h2|h2
 ·have hx:=zCd L i (h:=h2);have hne:L.map rowV≠[]:=zV;have hlr:=hl _ (zAo L [] i h2);have hcl:=zQj (zM (L.getD i [])) (L.getD i []).length (zB6 _) (by omega);have hst:=zXf (L.take i) L.length (L.getD i []) (by rw[zF2 L i h1];omega);have e1:L.take (i+1)=L.take i++[L.getD i []]:=zBl L i h2;rw[zF2 L i h1,<-e1]at hst;have hln:=zXg (L:=L.take i) (n:=L.length) (by rw[zF2 L i h1];omega);refine vAu<|zA<|vT ((i:Int)<↑(Aa L))<|vKB<|vAe<|zB rfl<|vr 6 (True/\0<1/\ix ↑i ↑(Aa L) (Af rowV L≠[]))<|vp 19 i (Af rowV L)<|vr 1 (0<Aa (Ak i<|Af rowV L))<|vsh 20 hx<|vc hcl<|vr 1 ((0:Int)<=(i:Int)/\(i:Int)<↑(Aa L))<|vo 22 1 i<|vr 1 (Bk.fz (rwB<|zDs (AH i L)<|Aa L)=Ac/\Ab=Ab/\1=1/\i+1<=Aa (AD<|rwB<|zDs (AH i L)<|Aa L)/\¬1∈[])<|vb 1 (Ai (setAt (AD<|rwB<|zDs (AH i L)<|Aa L) i<|cellsOf<|AC (zM<|AK L i [])<|Aa<|AK L i []) (Bk.ty<|rwB<|zDs (AH i L)<|Aa L) (Bk.sz<|rwB<|zDs (AH i L)<|Aa L) Ab Ac<|Bk.kd<|rwB<|zDs (AH i L)<|Aa L) (Ai (zDs (AH (i+1) L)<|Aa L) (110:TypeId) 1 Ab Ac Aj)<|vnil<|zD<|vN<|zB rfl<|vr 2 (i6 (↑i+1))<|vnil<|zC<|⟨i+1,by omega,by omega,?_⟩;refine vk 2
 obtain rfl:i=L.length:=by omega
 rw[Bt];have ht:=fillR_take L;refine vAu<|zA<|vF ((Aa L:Int)<↑(Aa L))<|vZ2<|vAe<|zG<|zBt (True) (AC (AH (Aa L)<|Ak 0<|AD<|rwB<|zDs L<|Aa L)<|Aa L) (AC (Af rowV L)<|Aa L) (.inr rfl) (by simp(disch:=omega) only[AY,ht]) rfl
set_option maxHeartbeats 4000000 in
theorem relProj_c(ar:Nat)(L:List Rw)(cols:List Nat)(hb:L.length<=65536)(hc32:cols.length<=32)(hl:∀r∈L,r.length=ar)(har:ar<=1000000)(hc:∀c∈cols,c<ar):Pure Am 125 [relD (ar:Nat) L, .row (cols.map λc=>iD (c:Nat)) cols.length] [] (.tup [relD (cols.length:Nat) (relR (L.map λr=>zQ r cols)),iD 0]):=by
 have hbl:∀r∈L.map λr=>zQ r cols,r.length<=2000000:=λr hr=>by
  grind [only,zQ,AV]
 obtain⟨t,hbu⟩:=build_a (cols.length:Nat) (L.map λr=>zQ r cols) L.length (by simp) (by omega) (Av (relR_len _) (by rw[AV];exact hb)) hbl;have hbk:∀(b0 b1:Bk),Acts Am 67 [iD (cols.length:Nat), .osl 2 0 L.length L.length Ab] [b0,b1,rwB ((L.map λr=>zQ r cols).map rowV)] [] (.tup [.agg [iD (cols.length:Nat), .osl 2 0 (relR (L.map λr=>zQ r cols)).length (relR (L.map λr=>zQ r cols)).length Ab],iD 0]) [b0,b1,rwB ((relR (L.map λr=>zQ r cols)).map rowV++t)]:=λb0 b1=>
  hbu.atG (st:=[b0,b1,rwB ((L.map λr=>zQ r cols).map rowV)]) 2 rfl (AP rfl rfl) (AP rfl rfl) zTb
 have htk:((relR (L.map λr=>zQ r cols)).map rowV++t).take (relR (L.map λr=>zQ r cols)).length=(relR (L.map λr=>zQ r cols)).map rowV:=BD (by simp);refine zJ zFz mixed Tryz.func125 rfl<|vAu<|zA<|vAe<|vF ((Aa cols:Int)>(32:Int))<|vK<|zA<|vAe<|zF<|zN (λ(i:Nat)=>fr 63 [(1,AC (Af (λ(c:Nat)=>iD (c:Int)) cols)<|Aa cols),(2,Ae 0 0),(4,Ae 1 0),(14,iD (Aa cols:Int)),(15,iD (i:Int))]) (λ(i:Nat)=>[relB (iD (ar:Nat))<|.row (L.map rowV) L.length,relB (iD 0) nl]) (λ(i:Nat)=>cols.length-i) (λ(i:Nat)=>i<=cols.length) 0 ?_ ?_ ?_
 ·omega
 ·refine vk 2
 rintro i h1;rcases Ax i cols.length with h2|h2
 ·have hx:=zL3 cols i h2;have hne:(cols.map λc:Nat=>iD (c:Nat))≠[]:=zV;have hca:=hc _ (zAo cols 0 i h2);generalize cols.getD i 0=c at*;refine vAu<|zA<|vT ((i:Int)<↑(Aa cols))<|vKB<|vAe<|zA<|vd [0,1,2,3,4,5,6,7,8,10,9,11,12,13]<|vr 3 (ix ↑i ↑(Aa cols) (Af (λ(c:Nat)=>iD c) cols≠[]))<|vp 20 i (Af (λ(c:Nat)=>iD c) cols)<|vr 1 (0<Aa (Ak i<|Af (λ(c:Nat)=>iD c) cols))<|vsh 21 hx<|vw 5 [] [(5,Ac)] (decide ((c:Int)<0)=Ac/\ix ↑i ↑(Aa cols) (Af (λ(c:Nat)=>iD c) cols≠[]))<|vp 26 i (Af (λ(c:Nat)=>iD c) cols)<|vr 2 (True/\0<Aa (Ak i<|Af (λ(c:Nat)=>iD c) cols))<|vsh 27 hx<|ve (0<2)<|vF ((c:Int)>=(ar:Int))<|zL<|zD<|vN<|zB rfl<|vr 2 (i6 (↑i+1))<|vnil<|zC<|⟨i+1,by omega,by omega,?_⟩;refine vk 2
 refine vAu<|zA<|vF ((i:Int)<↑(Aa cols))<|vZ2<|vA<|vr 5 (True/\0<1/\(0:Int)<=(Aa L:Int)/\(Aa L:Int)<=(Aa L:Int)/\(↑(24:Nat):Int)*(Aa L:Int)<=(281474976710656:Int)/\(Aa L:Int)<=(281474976710656:Int)/\0<1/\1=1)<|vs 7 (Ag 2 0 (Ao (Aa L:Int)) (Ao (Aa L:Int)*1) Ab) (Ag 2 0 (Aa L) (Aa L) Ab)<|veT<|zA<|vAe<|zF<|zN (λ(i:Nat)=>fr 63 [(1,AC (Af (λ(c:Nat)=>iD c) cols)<|Aa cols),(2,Ae 0 0),(4,Ae 1 0),(7,Ag 2 0 (Aa L) (Aa L) Ab),(39,iD<|Aa L),(40,iD i)]) (λ(i:Nat)=>[relB (iD (ar:Nat))<|.row (L.map rowV) L.length,relB (iD 0) nl,rwB<|zDs ((L.map λr=>zQ r cols).take i) L.length]) (λ(i:Nat)=>L.length-i) (λ(i:Nat)=>i<=L.length) 0 ?_ ?_ ?_
 ·omega
 ·refine wkn (fr 63 [(1,AC (Af (λ(c:Nat)=>iD (↑c:Int)) cols) (Aa cols)),(2,Ae 0 0),(4,Ae 1 0),(7,Ag 2 0 (Aa L) (Aa L) Ab),(39,iD (↑(Aa L):Int)),(40,iD 0)]) [relB (iD (↑ar:Int)) (AC (Af rowV L) (Aa L)),relB (iD 0) nl,Ai (repL (Aa L) [nl]) 110 1 Ab Ac (kdOf Ac)] (zH1 [(1,1),(2,1),(4,1),(7,1),(39,1),(40,1)] (AC (Af (λ(c:Nat)=>iD (↑c:Int)) cols) (Aa cols)=AC (Af (λ(c:Nat)=>iD (↑c:Int)) cols) (Aa cols)/\Ae 0 0=Ae 0 0/\Ae 1 0=Ae 1 0/\Ag 2 0 (Aa L) (Aa L) Ab=Ag 2 0 (Aa L) (Aa L) Ab/\iD (↑(Aa L):Int)=iD (↑(Aa L):Int)/\iD 0=iD (↑(0:Nat):Int)) 3 [] (by kernel_rfl) ⟨rfl,rfl,rfl,rfl,rfl,(by kernel_rfl)⟩ (by kernel_rfl) (λ_ _=>rfl) (by simp[updB,fillR_0,zEr]))
 clear h1 h2 i;rintro i h1;have hpl:(L.map λr=>zQ r cols).length=L.length:=by simp
 rcases Ax i L.length with h2|h2
 ·have hx:=zCd L i (h:=h2);have hne:L.map rowV≠[]:=zV;have hlr:=hl _ (zAo L [] i h2);have hpj:=zH8 (L.getD i []) cols _ _ rfl rfl (by omega) (by omega) (λc h=>by rw[hlr];exact hc c h);have hst:=zXf ((L.map λr=>zQ r cols).take i) L.length (zQ (L.getD i []) cols) (by rw[zF2 _ i (by omega)];omega);have e1:(L.map λr=>zQ r cols).take (i+1)=(L.map λr=>zQ r cols).take i++[zQ (L.getD i []) cols]:=by
   grind [zBl,zQ]
  have hpc:rowV (zQ (L.getD i []) cols)= .row (zM (zQ (L.getD i []) cols)) cols.length:=by simp[zQ]
  rw[zF2 _ i (by omega),<-e1,hpc]at hst;have hln:=zXg (L:=(L.map λr=>zQ r cols).take i) (n:=L.length) (by rw[zF2 _ i (by omega)];omega);refine vAu<|zA<|vT ((i:Int)<↑(Aa L))<|vKB<|vAe<|zB rfl<|vr 6 (True/\0<1/\ix ↑i ↑(Aa L) (Af rowV L≠[]))<|vp 49 i (Af rowV L)<|vr 1 (0<Aa (Ak i<|Af rowV L))<|vsh 50 hx<|vrT 1<|vc hpj<|vr 4 (0<2/\1<2/\(0:Int)<=(i:Int)/\(i:Int)<↑(Aa L))<|vo 55 2 i<|vr 1 (Bk.fz (rwB<|zDs (AH i<|Af (λ(r:List Va)=>zQ r cols) L)<|Aa L)=Ac/\Ab=Ab/\1=1/\i+1<=Aa (AD<|rwB<|zDs (AH i<|Af (λ(r:List Va)=>zQ r cols) L)<|Aa L)/\¬2∈[])<|vb 2 (Ai (setAt (AD<|rwB<|zDs (AH i<|Af (λ(r:List Va)=>zQ r cols) L)<|Aa L) i<|cellsOf<|AC (zM<|zQ (AK L i []) cols)<|Aa cols) (Bk.ty<|rwB<|zDs (AH i<|Af (λ(r:List Va)=>zQ r cols) L)<|Aa L) (Bk.sz<|rwB<|zDs (AH i<|Af (λ(r:List Va)=>zQ r cols) L)<|Aa L) Ab Ac<|Bk.kd<|rwB<|zDs (AH i<|Af (λ(r:List Va)=>zQ r cols) L)<|Aa L) (Ai (zDs (AH (i+1)<|Af (λ(r:List Va)=>zQ r cols) L)<|Aa L) (110:TypeId) 1 Ab Ac Aj)<|vnil<|zD<|vN<|zB rfl<|vr 2 (i6 (↑i+1))<|vnil<|zC<|⟨i+1,by omega,by omega,?_⟩;refine vk 3
 obtain rfl:i=L.length:=by omega
 have hfa:=zXh (L.map λr=>zQ r cols);rw[hpl]at hfa;rw[Bg (by omega),hfa];refine vAu<|zA<|vF ((Aa L:Int)<↑(Aa L))<|vZ2<|vA<|vrT 3<|vnt [relB (iD ar)<|AC (Af rowV L)<|Aa L,relB (iD 0) nl,rwB<|Af rowV<|Af (λ(r:List Va)=>zQ r cols) L]<|zAi [] [] [iD<|Aa cols,Ag 2 0 (Aa L) (Aa L) Ab] [iD<|Aa cols,Ag 2 0 (Aa L) (Aa L) Ab] (Az _) (by exact hbk _ _) ?_;refine v0s<|ve (af_)<|zG<|zBt (2<=2) (D.tup [An [iD<|Aa cols,AC (AH (Aa<|relR<|Af (λ(r:List Va)=>zQ r cols) L)<|Ak 0 (Af rowV (relR<|Af (λ(r:List Va)=>zQ r cols) L)++t))<|Aa<|relR<|Af (λ(r:List Va)=>zQ r cols) L],iD 0]) (D.tup [An [Al<|AQ AR (Aa cols:Int),AC (Af rowV<|relR<|Af (λ(r:List Va)=>zQ r cols) L)<|Aa<|relR<|Af (λ(r:List Va)=>zQ r cols) L],Al<|AQ AR 0]) (.inr rfl) (by simp(disch:=omega) only[AY,htk]) rfl (hc:=by omega)
theorem adT_sz{B:Nat}:∀(f:Nat)(x:List Va)(t:Tri),SzT B t->SzT (B+1) (adT x f t)
 |0,[],t,h=>λk=>⟨Av (h k).1 (AI _),Av (h k).2.1 (AI _),λc hc=>Av ((h k).2.2 c hc) (AI _)⟩
 |f+1,[],t,h=>λk=>by
  rw[show adT [] (f+1) t=t by cases t<;>rfl];exact⟨Av (h k).1 (AI _),Av (h k).2.1 (AI _),λc hc=>Av ((h k).2.2 c hc) (AI _)⟩
 |0,v::x,[],h=>λk=>⟨Av (h k).1 (AI _),Av (h k).2.1 (AI _),λc hc=>Av ((h k).2.2 c hc) (AI _)⟩
 |f+1,v::x,[],h=>λk=>⟨Av (h k).1 (AI _),Av (h k).2.1 (AI _),λc hc=>Av ((h k).2.2 c hc) (AI _)⟩
 | 0,v::x,l::t,h=>λk=>by
  have ht:SzT B t:=λk=>h (k+1);cases k with
  | zero=>
   obtain⟨h1,h2,h3⟩:=h 0;refine⟨?_,?_,λc hc=>?_⟩
   ·show(l.1++[v]).length<=B+1;grind
   ·show(l.2++[szT t]).length<=B+1;grind
   have hc:c∈l.2++[szT t]:=hc;rcases Bi.1 hc with hc|hc
   ·grind
   rw[Bd.1 hc,zYk];exact Av (ht 0).1 (AI _)
  |succ k=>exact adT_sz 0 x t ht k
 | f+1,v::x,l::t,h=>λk=>by
  have ht:SzT B t:=λk=>h (k+1);cases k with
  |zero=>
   obtain⟨h1,h2,h3⟩:=h 0;exact⟨Av h1 (AI _),Av h2 (AI _),λc hc=>Av (h3 c hc) (AI _)⟩
  |succ k=>exact adT_sz f x t ht k
variable{t:Tri}
theorem stF_sz(h:SzT B t):SzT (B+1) (stF t l):=λk=>by
 unfold stF vls fst';rw[zW9];split
 ·refine⟨Av (h l).1 (AI _),by rw[AE];exact BW (h l).2.1,λc hc=>?_⟩;rcases Bi.1 hc with hc|hc
  ·have:=(h l).2.2 c hc;omega
  rw[Bd.1 hc];have:=(h (l+1)).1;exact Av this (AI _)
 exact⟨Av (h k).1 (AI _),Av (h k).2.1 (AI _),λc hc=>Av ((h k).2.2 c hc) (AI _)⟩
theorem kst1{B:Bk}(hk:k<o+2*t.length)(hB:zAu k B=B):((tlay m o base t++[B]).map (zAu k)).set k b'=((tlay m o base t).map (zAu k)).set k b'++[B]:=by
 grind [List.set_append_left,zCo]
theorem shr_le:∀(x y:List Va),shr x y<=y.length
 |[],y=>by rw[zSp];exact Bh _
 |a::x,[]=>Bh _
 |a::x,b::y=>by
  rw[shr];split
  ·have:=shr_le x y;simpa using this
  exact Bh _
theorem zX1(x:List Va):∀(L:List (List Va))(last:List Va)(t:Tri),bldT last (L++[x]) t=adT x (shr (L.getLastD last) x) (bldT last L t)
 |[],last,t=>rfl
 |y::L,last,t=>by
  rw[Br,bldT,zX1 x L y,List.getLastD_cons];rfl
theorem uqA_id:∀(L:List Rw)(p:Rw),Rsc (p::L)->uqA p L=L
 |[],p,h=>rfl
 | b::L,p,h=>by
  obtain⟨h1,h2⟩:=A0.1 h;have hne:b≠p:=λe=>by
   have:=h1 b (by simp)
   grind [zD1]
  rw[uqA,if_neg hne,uqA_id L b h2]
theorem relR_id(h:Rsc L):relR L=L:=by
 have hs:srtB L=true:=by
  unfold srtB;rw[A9];intro j hj;have hj:=AX.1 hj;unfold wStep;rcases BJ j with h0|h0
  ·grind
  have:=BI.1 h (j-1) j (by omega) hj (by omega)
  grind [only,AL,zD1,rcmp]
 unfold relR;rw[hs,if_pos rfl];cases L with
 |nil=>rfl
 |cons a L=>show a::uqA a L=_;rw[uqA_id L a h]
theorem pick_id{r:Rw}(h:r.length=n):zQ r (Aw n)=r:=by
 unfold zQ;apply A2;grind
abbrev rgD(n:Nat):List D:=(Aw n).map λc=>iD (c:Nat)
theorem rg_hd(h:i<n):((rgD n).drop i).headD .unk=iD (i:Nat):=by
 simp_all
theorem rg_take(h:i<=n):(rgD n).take i=rgD i:=by
 rw[<-List.map_take,List.take_range,Bw h]
theorem indexNo_c(i:Nat)(hi:i<=1000000):Pure Am 155 [.row (rgD i) i,iD (i:Nat)] [] (iD (-1)):=by
 refine zJ zFz mixed Tryz.func155 rfl<|vAu<|zA<|vAe<|zF<|zN (λ(j:Nat)=>fr 19 [(0,AC (rgD i) i),(1,iD (i:Int)),(7,iD (i:Int)),(8,iD (j:Int))]) (λ(j:Nat)=>[]) (λ(j:Nat)=>i-j) (λ(j:Nat)=>j<=i) 0 ?_ ?_ ?_
 ·omega
 ·refine vk 0
 intro j h1;rcases Ax j i with h2|h2
 ·have hx:=rg_hd h2;have hne:rgD i≠[]:=zV (h:=by simp;omega);refine vAu<|zA<|vT ((j:Int)<↑i)<|vKB<|vAe<|vA<|vr 4 (ix ↑j ↑i (rgD i≠[]))<|vp 14 j (rgD i)<|vr 1 (0<Aa (Ak j<|rgD i))<|vsh 15 hx<|veT<|vEf ((i:Int)) ((j:Int))<|zL<|zD<|vN<|zB rfl<|vr 2 (i6 (↑j+1))<|vnil<|zC<|⟨j+1,by omega,by omega,?_⟩;refine vk 0
 refine vAu<|zA<|vF ((j:Int)<(i:Int))<|vZ2<|vAe<|zG<|vret (True)<|.inr rfl
theorem zXr(i:Nat)(hi:i<=1000000):Pure Am 124 [.row (rgD i) i,iD (i:Nat)] [] (bD Ac):=by
 have h:=indexNo_c i hi;refine zJ zFz mixed Tryz.func124 rfl<|vAu<|vA<|vrT 2<|vc (h)<|veT<|zG<|vret (True)<|.inr rfl
def Tqn:Par:=⟨(Tt 5).imp,λ_ _=>AA,λ_=>Ac,λ_=>Ac,λt=>t==243⟩
theorem Tqn_ok:zBg Am Tqn:=by intro t n f h;cases h
abbrev rlB(n:Nat)(L:List Rw):Bk:=⟨[iD (n:Nat), .row (L.map rowV) L.length],73,0,Ac,Ac, .plain⟩
def nwb(n:Nat)(L:List Rw)(r:D)(k:Nat):Bk:=([rlB n L,⟨[r],185,0,Ac,Ac, .plain⟩,rlB n L,Ad,tvB 3 n]:List Bk).getD k Ad
theorem nw_set(n:Nat)(L:List Rw)(t:Tri)(r r':D):(tlay 3 5 (nwb n L r) t).set 1 ⟨[r'],185,0,Ac,Ac, .plain⟩=tlay 3 5 (nwb n L r') t:=by
 apply A2;intro j;rw[BT,zCo];split
 ·rename_i e;subst e;rw[if_pos (by omega),zEe (by omega)];rfl
 rename_i e;rcases Ax j (5+2*t.length)with hj|hj
 ·rw[zEe hj,zEe hj];unfold tblk;split
  ·rfl
  split
  ·rename_i h5;match j,h5,e with
   |0,_,_=>rfl
   |2,_,_=>rfl
   |3,_,_=>rfl
   |4,_,_=>rfl
   |1,_,e=>exact absurd rfl e
  rfl
 grind [Bf,zCo]
abbrev q6_:=Ai [nl] 185 0 Ac Ac Aj
theorem trieNew_c(n:Nat)(L:List Rw)(hn:n<=32)(hL:L.length<=65536)(hl:∀r∈L,r.length=n)(hs:Rsc L):Pure Am 77 [relD (n:Nat) L, .row (rgD n) n] [] (.tup [.agg [triC (zCn n L)],iD 0]):=by
 have hra:=rarity_c (n:Nat) (L.map rowV) L.length;have hpr:=relProj_c n L (Aw n) hL (by simpa using hn) hl (by omega) (by simp);have e1:(L.map λr=>zQ r (Aw n))=L:=by
  conv=>rhs;rw[<-List.map_id L]
  grind [List.map_congr_left,pick_id]
 rw[e1,relR_id hs,List.length_range]at hpr;have hrw:=rRows_c (n:Nat) L hL (λr hr=>by have:=hl r hr;omega);refine zJ Tqn_ok mixed Tryz.func77 rfl<|vAu<|zA<|vAe<|zF<|zN (λ(i:Nat)=>fr 92 [(1,AC (rgD n) n),(2,Ae 0 0),(4,Ae 1 0),(15,AC (rgD n) n),(16,iD (n:Int)),(17,iD (i:Int))]) (λ(i:Nat)=>[⟨[iD (n:Nat),.row (L.map rowV) L.length],73,0,Ac,Ac,.plain⟩,⟨[nlD],185,0,Ac,Ac,.plain⟩]) (λ(i:Nat)=>n-i) (λ(i:Nat)=>i<=n) 0 ?_ ?_ ?_
 ·omega
 ·refine vk 2
 intro i h1;rcases Ax i n with h2|h2
 ·have hx:=rg_hd h2;have hne:rgD n≠[]:=zV (h:=by simp;omega);have htk:=rg_take h1;have hco:=zXr i (by omega);refine vAu<|zA<|vT ((i:Int)<↑n)<|vKB<|vA<|vr 2 (ix ↑i ↑n (rgD n≠[]))<|vp 20 i (rgD n)<|vr 1 (0<Aa (Ak i<|rgD n))<|vsh 21 hx<|veT<|zA<|vA<|vw 5 [] [(2,Ac)] (decide ((i:Int)<0)=Ac/\2<=2)<|vc hra<|veT<|vF ((i:Int)>=(n:Int))<|vK<|vA<|vr 3 (True/\(0:Int)<=(i:Int)/\True/\0<1/\0<=Ao (i:Int)/\Ao (i:Int)<=n/\Ao (i:Int)=Ao (i:Int))<|vs 33 (AC (AH ((Ao (i:Int)-0)*1)<|Ak 0<|rgD n) (Ao (i:Int)-0)) (AC (rgD i) i)<|vrT 1<|vc hco<|veT<|vf<|zL<|zD<|vN<|zB rfl<|vr 2 (i6 (↑i+1))<|vnil<|zC<|⟨i+1,by omega,by omega,?_⟩;refine vk 2
 obtain rfl:i=n:=by omega
 refine vAu<|zA<|vF ((i:Int)<↑i)<|vZ2<|vA<|vr 2 (2<=2)<|vc hpr<|ve (af_)<|zA<|vAe<|vf<|vK<|vA<|ve (((0:Int)<=(i:Int)/\(i:Int)<=↑i/\(↑(48:Nat):Int)*(i:Int)<=(281474976710656:Int)/\(i:Int)<=(281474976710656:Int)/\0<2/\2=2)/\((1=1/\1<=1/\True)/\Ab=Ab)/\Ac=Ac/\Ab=Ab/\1=1/\1<=1)<|vA<|vrT 1<|vnil<|zC<|vnn (fr 92 [(4,Ae 1 0),(8,Ae 2 0),(10,Ae 4 0),(11,nl)]) [Ai [iD i,AC (Af rowV L)<|Aa L] (73:TypeId) 0 Ac Ac Aj,Ai [nlD] (185:TypeId) 0 Ac Ac Aj,Ai [iD i,AC (Af rowV L)<|Aa L] 73 0 Ac Ac Aj,Ai (repL i [nl,nl]) 243 2 Ab Ac<|kdOf Ab,Ai [Ag 3 0 i (i*2) Ab] 185 0 Ac Ac Aj]<|zBh (weak_mk (rlB i L) ⟨[nlD],185,0,Ac,Ac,.plain⟩ (rlB i L) (tvB 3 i) (nwb i L nlD) i rfl rfl rfl rfl) ?_;have hl4:∀t:Tri,(tlay 3 5 (nwb i L nlD) t)[4]?=Ah (tvB 3 i):=λt=>by rw[zEe (by omega)];rfl
 have hl2:∀t:Tri,(tlay 3 5 (nwb i L nlD) t)[2]?=Ah (rlB i L):=λt=>by rw[zEe (by omega)];rfl
 have hbs:Bss 5 (nwb i L nlD):=λk hk=>by
  match k,hk with
  |0,_=>exact .inr λj _=>by simp[nwb,zAt,refs]
  |1,_=>exact .inr λj _=>by simp[nwb,zAt,refs]
  |2,_=>exact .inr λj _=>by simp[nwb,zAt,refs]
  |3,_=>exact .inr λj _=>by simp[nwb,zAt,Ad,instInhabitedBk.default]
  |4,_=>exact .inr λj hj=>by simp[nwb,zAt,refs];omega
 refine zA<|vA<|zAs (Ai [iD i,AC (Af rowV L)<|Aa L] 73 0 Ac Ac Aj) (2) (Ay 2 2) (An [iD i,AC (Af rowV L)<|Aa L]) (hl2 _) (by simp) ?_;refine zYn [An [iD i,AC (Af rowV L)<|Aa L]] (by exact hrw) ?_;refine zAh [8,52] [(54,iD<|Aa L),(55,iD 0)] ?_;refine zF ?_;have htl:∀j,(bldT [] (L.take j) (AF i ([],[]))).length=i:=λj=>by rw[zNi,By]
 refine zN (λ(j:Nat)=>fr 92 [(4,Ae 1 0),(10,Ae 4 0),(11,rowV<|List.getLastD (AH j L) []),(53,AC (Af rowV L)<|Aa L),(54,iD<|Aa L),(55,iD j)]) (λ(j:Nat)=>tlay 3 5 (nwb i L nlD) (bldT [] (L.take j)<|AF i ([],[]))) (λ(j:Nat)=>L.length-j) (λ(j:Nat)=>j<=L.length/\SzT j (bldT [] (L.take j)<|AF i ([],[]))) 0 ?_ ?_ ?_
 ·refine⟨by omega,λk=>?_⟩;show(vls (AF i ([],[])) k).length<=0/\(fst' (AF i ([],[])) k).length<=0/\∀c∈fst' (AF i ([],[])) k,c<=0;simp_all [zSx]
 ·refine weak_opq [(4,1),(10,1),(11,3),(53,1),(54,1),(55,1)] (Ae 1 0=Ae 1 0/\Ae 4 0=Ae 4 0/\AC (Af rowV L) (Aa L)=AC (Af rowV L) (Aa L)/\iD (↑(Aa L):Int)=iD (↑(Aa L):Int)/\iD 0=iD (↑(0:Nat):Int)) (by kernel_rfl) ⟨rfl,rfl,rfl,rfl,(by kernel_rfl)⟩
 rintro j ⟨c1,c2⟩;rcases Ax j L.length with hj|hj
 ·have hrow:=zCd L j (h:=hj);have hne:L.map rowV≠[]:=zV;have htk2:=zB2 L [] j hj;have hxl:=hl (L.getD j []) (by rw[AN,AL hj];exact Ci hj);have hbl:bldT [] (L.take (j+1)) (AF i ([],[]))=adT (L.getD j []) (shr ((L.take j).getLastD []) (L.getD j [])) (bldT [] (L.take j) (AF i ([],[]))):=by rw[htk2,zX1]
  have hgl:(L.take (j+1)).getLastD []=L.getD j []:=by rw[htk2];simp
  have hll:((L.take j).getLastD []).length<=(L.getD j []).length:=by
   rw[hxl];rcases BJ j with h0|h0
   ·simp_all
   have hm:(L.take j).getLastD []∈L:=by
    have hne2:L.take j≠[]:=λe=>by
     simp_all
    grind [List.getLast?_eq_some_getLast,Cj,List.getLast_mem]
   grind
  have hsh:=shared_c ((L.take j).getLastD []) (L.getD j []) hll (by omega);have hsl:=shr_le ((L.take j).getLastD []) (L.getD j []);have htj:=htl j;have had:=add_a (m:=3) (o:=5) (base:=nwb i L nlD) (by decide) hbs (L.getD j []) (bldT [] (L.take j) (AF i ([],[]))) (shr ((L.take j).getLastD []) (L.getD j [])) (by omega) (by omega) (by omega) (by decide) j (by omega) c2 ((Aw (2*i)).map (5+·)) (λk hk=>by
   rcases Ax k 5 with h|h
   ·exact .inl h
   refine .inr (Bn.2 ⟨k-5,AX.2 (by omega),by omega⟩))
  rw[htj]at had;rw[<-hbl]at had;have hsz3:=adT_sz (shr ((L.take j).getLastD []) (L.getD j [])) (L.getD j []) _ c2;rw[<-hbl]at hsz3;rw[<-hgl]at had hsh hrow hsl;generalize (L.take j).getLastD []=last at*;generalize hgx:(L.take (j+1)).getLastD []=x at*;generalize shr last x=f at*;have hl4j:=hl4 (bldT [] (L.take j) (AF i ([],[])));refine vA<|zAh [] [(56,bD<|decide ((j:Int)<↑(Aa L)))] ?_;refine zA<|vT ((j:Int)<↑(Aa L))<|vKB<|vA<|zX 1 [] [] (ix ↑j ↑(Aa L) (Af rowV L≠[])) [(57,D.ptr<|Ak (Ao (j:Int)*1)<|Af rowV L)] ?_ (hc:=⟨(by omega),⟨(by omega),(by assumption)⟩⟩);refine zAp 57 (D.ptr<|Ak (Ao (j:Int)*1)<|Af rowV L) (D.ptr<|Ak j<|Af rowV L) (by simp(disch:=omega) only[AS,AZ]) ?_;refine zX 1 [] [] (0<Aa (Ak j<|Af rowV L)) [(58,AG (Ak j<|Af rowV L) Uk)] ?_ (hc:=by(simp;omega));refine zAp 58 (AG (Ak j<|Af rowV L) Uk) (rowV x) (by simp(disch:=omega) only[hrow]) ?_;refine zAh [56,57,58] [(13,(q3_ x))] ?_;refine zA<|vd [1,2,3,0,4,5]<|zBa 3 [(60,(q3_ x)),(61,(q3_ last)),(62,(q3_ x))] ?_;refine zAs (Ai [Ag 3 0 i (i*2) Ab] 185 0 Ac Ac Aj) (4) (Ay 1 1) (An [Ag 3 0 i (i*2) Ab]) hl4j (by simp) ?_;focus
   refine zYn [(q3_ last),(q3_ x)] (by exact hsh) ?_;refine zSo [] [] [An [Ag 3 0 i (i*2) Ab],(q3_ x),iD f] [An [Ag 3 0 i (i*2) Ab],(q3_ x),iD f] (¬1∈Af (λ(x:Nat)=>5+x) (Aw (2*i))/\¬4∈Af (λ(x:Nat)=>5+x) (Aw (2*i))/\¬3∈Af (λ(x:Nat)=>5+x) (Aw (2*i))/\True) (by kernel_rfl) trivial (Az _) (by exact had) (by kernel_rfl) ?_ ?_ ?_;rotate_left;rotate_left;refine zAh [59,60,61,62,63,64] [] ?_;refine zB rfl<|zBa 2 [(11,(q3_ x)),(65,(q3_ x))] ?_;refine zAn ?_ (by kernel_rfl);refine zD<|vN<|zB rfl<|zX 2 [] [] (i6 (↑j+1)) [(55,iD (↑j+1)),(66,iD (↑j+1))] ?_;refine zAn ?_ (by kernel_rfl);refine zC ?_;rotate_left
  ·exact λ_ _=>rfl
  ·grind
  refine⟨j+1,⟨hj,hsz3⟩,by omega,?_⟩;rw[hgx];refine vkp [4,10,11,53,54,55]
 obtain rfl:j=L.length:=by omega
 rw[Bt]at c2⊢;have htl2:=htl L.length;rw[Bt]at htl2;obtain⟨tb,htb⟩:∃tb,tb=bldT [] L (AF i ([],[])):=⟨_,rfl⟩;rw[<-htb]at c2 htl2⊢;refine vA<|zAh [] [(56,bD<|decide ((Aa L:Int)<(Aa L:Int)))] ?_;refine zA<|vF ((Aa L:Int)<↑(Aa L))<|vZ2<|zA<|vA<|zBa 1 [(67,Ae 4 0)] ?_;refine zAs (Ai [Ag 3 0 i (i*2) Ab] 185 0 Ac Ac Aj) (4) (Ay 1 1) (Ag 3 0 i (i*2) Ab) (hl4 tb) (by simp) ?_;refine zAh [11,53,54,55,56,67,68] [(69,iD i),(70,iD 0)] ?_;refine zF<|zN (λ(l:Nat)=>fr 92 [(4,Ae 1 0),(10,Ae 4 0),(69,iD i),(70,iD l)]) (λ(l:Nat)=>tlay 3 5 (nwb i L nlD) ((AJ 0 l).foldl stF tb)) (λ(l:Nat)=>i-l) (λ(l:Nat)=>l<=i/\SzT (L.length+l) ((AJ 0 l).foldl stF tb)) 0 ?_ ?_ ?_
 ·exact⟨by omega,c2⟩
 ·refine vkp [4,10,69,70]
 rintro l ⟨c3,c4⟩;rcases Ax l i with hli|hli
 ·have hsu:(AJ 0 (l+1)).foldl stF tb=stF ((AJ 0 l).foldl stF tb) l:=by
   simp_all [List.range'_concat,BX]
  have hln:((AJ 0 l).foldl stF tb).length=i:=by rw[zXc,htl2]
  generalize (AJ 0 l).foldl stF tb=u at*;have hul:l<u.length:=by omega
  have hl4u:=hl4 u;have hhd1:=lv_hd1 (o:=5) hul;have hll:=zRn (o:=5) (t:=u);have hnu:=zVo (m:=3) (t:=u) hbs;have hsz2:=size_g (m:=3) (o:=5) (t:=u) (st:=tlay 3 5 (nwb i L nlD) u) (tl_m (by decide)) (λb hb=>by rw[zCo];exact hnu b hb) (l+1) (by omega);rw[hln]at hsz2;have hfl2:=(c4 l).2.1;have htl5:(tlay 3 5 (nwb i L nlD) u).length=5+2*u.length:=zCo;have htk9:(tlay 3 5 (nwb i L nlD) u).take 100000=tlay 3 5 (nwb i L nlD) u:=zFe (by rw[htl5];omega);have htB3:((tlay 3 5 (nwb i L nlD) u).take 100000)[4]?=Ah (tvB 3 i):=by rw[htk9];exact hl4u
  have htm3:((tlay 3 5 (nwb i L nlD) u).take 100000)[3]?=Ah (lvB 5 u):=by rw[htk9];exact tl_m (by decide)
  refine vA<|zAh [] [(71,bD<|decide ((l:Int)<↑i))] ?_;refine zA<|vT ((l:Int)<↑i)<|vKB<|vA<|zAh [71,72] [(14,iD l)] ?_;refine zDc [0,2,3,5,10,11,1,4,6,7,8,9] [(12,[(1,100000),(4,100000),(6,100000),(7,100000),(8,100000)],[13]),(14,[(1,100000)],[15,16,17])] rfl ?_;refine zX 6 [] [] (True/\True/\i6 (↑l+1)) [(73,Ae 4 0),(75,iD l),(76,Ae 4 0),(78,iD l),(83,iD l),(84,iD (↑l+1))] ?_ (hc:=⟨trivial,trivial,(by omega)⟩);refine zAs (Ai [Ag 3 0 i (i*2) Ab] 185 0 Ac Ac Aj) (4) (Ay 1 1) (Ag 3 0 i (i*2) Ab) hl4u (by simp) ?_;refine zAs (Ai [Ag 3 0 i (i*2) Ab] 185 0 Ac Ac Aj) (4) (Ay 1 1) (Ag 3 0 i (i*2) Ab) hl4u (by simp) ?_;refine zX 1 [] [] ((0:Int)<=(l:Int)/\(l:Int)<↑i) [(79,Ae 3 (0+Ao (l:Int)*2))] ?_;refine zAp 79 (Ae 3 (0+Ao (l:Int)*2)) (Ae 3 (l*2)) (by simp(disch:=omega) only[AS,AT]) ?_;refine zBa 1 [(80,Ae 3 (l*2+1))] ?_;refine zAs (Ai (lvCs 5 u) 243 2 Ab Ac AM) (3) (Ay 1<|Aa<|Ak (l*2+1)<|lvCs 5 u) (AG (Ak (l*2+1)<|lvCs 5 u) Uk) (tl_m (by decide:3<5)) (by(simp;omega)) ?_;rw[hhd1];refine zAs (Ai [Ag 3 0 i (i*2) Ab] 185 0 Ac Ac Aj) (4) (Ay 1 1) (An [Ag 3 0 i (i*2) Ab]) hl4u (by simp) ?_;refine zAn ?_ (by kernel_rfl);refine zFt rfl rfl (zFp<|λx hx=>by rw[htl5];simp at hx;rcases hx with rfl|rfl|rfl|rfl|rfl<;>(show _<=100000;omega)) ?_;refine zAi [] [] [An [Ag 3 0 i (i*2) Ab],iD (↑l+1)] [An [Ag 3 0 i (i*2) Ab],iD ↑(l+1)] (Az _) (by exact hsz2) ?_;refine zAn ?_ (by kernel_rfl);refine zFg (Au _) (zD3 (zE5 1 100000 (tvB 3 i) 4 (0<1) (.osl 3 0 i (i*2) Ab) (by kernel_rfl) htB3 (by decide) (by kernel_rfl))
   (zD3 (zE5 4 100000 (tvB 3 i) 4 (0<1) (.osl 3 0 i (i*2) Ab) (by kernel_rfl) htB3 (by decide) (by kernel_rfl))
   (zD3 (zNc 6 100000 ((0:Int)<=(l:Nat)/\((l:Nat):Int)<(i:Nat)) (.own 3 (0+Ao (l:Nat)*2)) (.own 3 (l*2)) (by kernel_rfl) (by simp) (by omega) (by kernel_rfl))
   (zD3 (zNc 7 100000 True (.own 3 (l*2+1)) (.own 3 (l*2+1)) (by kernel_rfl) rfl trivial (by kernel_rfl))
   (late_ldE 8 100000 (lvB 5 u) 3 (0<((lvCs 5 u).drop (l*2+1)).length) (((lvCs 5 u).drop (l*2+1)).headD .unk) (.osl (5+2*l+1) 0 (fst' u l).length (fst' u l).length Ab) (by kernel_rfl) hhd1 htm3 (by rw[List.length_drop,hll];omega) (by kernel_rfl)))))) ?_
  rotate_left;refine zBm (5+2*Aa u) ((1=1/\1<=1/\True)/\0<1/\1=1/\1<=16777216/\1<=9223372036854775807) (Ai [iD (↑(Aa<|vls u (l+1)):Int)] 3 1 Ab Ac Aj) (Ag 0 0 1 1 Ab) htl5 ?_ (hp:=⟨⟨(by kernel_rfl),⟨(by omega),trivial⟩⟩,(by omega)⟩);refine zAn ?_ (by kernel_rfl);refine zFt rfl rfl (zFp<|λx hx=>by rw[AE,htl5];simp at hx;subst hx;show _+1<=100000;omega) ?_;refine zSn (Ai (Af (λ(c:Nat)=>iD c)<|fst' u l) 3 1 Ab Ac Aj) (Ai [iD (↑(Aa<|vls u (l+1)):Int)] 3 1 Ab Ac Aj) 81 (5+2*l+1) (5+2*Aa u) (Ab=Ab/\Aa (Af (λ(c:Nat)=>iD c)<|fst' u l)=Aa (fst' u l)*1/\Aa (fst' u l)=Aa (fst' u l)*1/\3=3/\1=1/\1=1/\0<1/\0<8/\3=3/\(Aa (fst' u l)+1)*8<=140737488355328/\1=1/\Kd.isMap Aj=Ac/\(Ac=Ac\/Kd.isSh Aj=Ab)) (1≠5+2*l+1/\4≠5+2*l+1/\4≠5+2*l+1/\3≠5+2*l+1/\4≠5+2*l+1/\3≠5+2*l+1/\3≠5+2*l+1/\3≠5+2*l+1/\3≠5+2*l+1/\5+2*Aa u≠5+2*l+1/\True) (Ai (Af (λ(c:Nat)=>iD c) (fst' u l)++[iD (↑(Aa<|vls u (l+1)):Int)]) 3 1 Ab Ac Aj) (Ag (5+2*l+1) 0 (Aa (fst' u l)+1) ((Aa (fst' u l)+1)*1) Ab) (by kernel_rfl) (zBi<|tl_f (m:=3) (o:=5) (by decide) hul) (zA5 htl5) ⟨(by kernel_rfl),⟨(by simp),⟨(by omega),⟨(by kernel_rfl),⟨(by kernel_rfl),⟨(by kernel_rfl),⟨(by omega),⟨(by omega),⟨(by kernel_rfl),⟨(by omega),⟨(by kernel_rfl),⟨(by kernel_rfl),(by simp)⟩⟩⟩⟩⟩⟩⟩⟩⟩⟩⟩⟩ (by kernel_rfl) ⟨(by omega),⟨(by omega),⟨(by omega),⟨(by omega),⟨(by omega),⟨(by omega),⟨(by omega),⟨(by omega),⟨(by omega),⟨(by omega),trivial⟩⟩⟩⟩⟩⟩⟩⟩⟩⟩ ?_ ?_
  ·exact rfl
  rw[kst1 (t:=u) (k:=5+2*l+1) (by omega) (zJa rfl)];rw[AZ];refine zAn ?_ (by kernel_rfl);refine zFg (by rw[AE,htl5,AE,zGc];exact Au _) (zE5 1 100000 (tvB 3 i) 4 (0<1) (.osl 3 0 i (i*2) Ab) (by kernel_rfl) (by
   rw[zFe (by rw[AE,zGc];show _+1<=100000;omega)];refine zBi ?_;rw[BR (by omega),BG,hl4u];exact congrArg Ah (zYj (by omega))) (by decide) (by kernel_rfl)) ?_
  refine zX 1 [] [] ((0:Int)<=(l:Int)/\(l:Int)<↑i) [(88,Ae 3 (0+Ao (l:Int)*2))] ?_;refine zAp 88 (Ae 3 (0+Ao (l:Int)*2)) (Ae 3 (l*2)) (by simp(disch:=omega) only[AS,AT]) ?_;refine zBa 1 [(89,Ae 3 (l*2+1))] ?_;refine zCh (Ai (Af (zAq (5+2*l+1))<|lvCs 5 u) 243 2 Ab Ac AM) (3) (Ac=Ac/\Ab=Ab/\1=1/\l*2+1+1<=Aa (Af (zAq (5+2*l+1))<|lvCs 5 u)) (Ai (setAt (Af (zAq (5+2*l+1))<|lvCs 5 u) (l*2+1)<|cellsOf<|Ag (5+2*l+1) 0 (Aa (fst' u l)+1) (Aa (fst' u l)+1) Ab) 243 2 Ab Ac AM) (zBi<|ks_m (by decide:3<5) (by omega:5+2*l+1≠3)) ⟨(by kernel_rfl),⟨(by kernel_rfl),⟨(by kernel_rfl),(by(simp;omega))⟩⟩⟩ ?_;have hA2:=tl_appf1 (m:=3) (o:=5) (base:=nwb i L nlD) (by decide) hbs hul (vls u (l+1)).length;refine zJq (tlay 3 5 (nwb i L nlD) (stF u l)++[⟨[iD ((vls u (l+1)).length:Nat)],3,1,Ab,Ac,.plain⟩]) ?_ ?_
  ·rw[zB7 (by rw[zGc];omega)];exact congrArg (λs=>s++[_]) hA2
  refine zAn ?_ (by kernel_rfl);refine zFh<|zD<|zC<|zHo (AJ 5 5++AJ 11 58++AJ 71 21) ([Uk,Uk,Uk,Uk,.own 1 0,Uk,Uk,Uk,Uk,Uk,.own 4 0]++AF 58 Uk++[iD (i:Nat),iD (l:Nat)]++AF 21 Uk) (1<5+2*u.length/\4<5+2*u.length/\True) (by rw[zCo,zYo]) (λb hb=>by have:=zVo hbs b hb;rwa[zYo]at this) (λ_ _=>rfl) (by kernel_rfl) (by kernel_rfl) ⟨by omega,by omega,trivial⟩ ?_;refine zB rfl<|zX 2 [] [] (i6 (↑l+1)) [(70,iD ↑(l+1)),(90,iD ↑(l+1))] ?_;refine zAn ?_ (by kernel_rfl);refine zC<|⟨l+1,⟨hli,?_⟩,by omega,?_⟩
  ·grind [stF_sz]
  rw[hsu];refine vkp [4,10,69,70]
 obtain rfl:l=i:=by omega
 have hff:=foldF tb;rw[htl2]at hff;rw[hff]at c4⊢;have htt:finT tb=zCn l L:=by rw[htb];rfl
 rw[htt];have htlen:=zKf l L;have hl1:(tlay 3 5 (nwb l L nlD) (zCn l L))[1]?=Ah ⟨[nlD],185,0,Ac,Ac, .plain⟩:=by rw[zEe (by omega)];rfl
 refine vA<|zAh [] [(71,bD<|decide ((l:Int)<↑l))] ?_;refine zA<|vF ((l:Int)<↑l)<|vZ2<|vA<|zAs (Ai [Ag 3 0 l (l*2) Ab] 185 0 Ac Ac Aj) (4) (Ay 1 1) (An [Ag 3 0 l (l*2) Ab]) (hl4 _) (by simp) ?_;refine zCh (q6_) (1) (Ac=Ac/\Ab=Ab/\1=1/\1<=1) (Ai [Ag 3 0 l (l*2) Ab] 185 0 Ac Ac Aj) hl1 ⟨(by kernel_rfl),⟨(by kernel_rfl),(by omega)⟩⟩ ?_;refine zJq (tlay 3 5 (nwb l L<|.osl 3 0 l (l*2) Ab)<|zCn l L) (nw_set l L _ nlD _) ?_;refine zX 1 [] [] True [(5,iD 0)] ?_ (hc:=trivial);refine zAn ?_ (by kernel_rfl);refine zC<|next_trie (rlB l L) (AJ 6 86) ([Uk,Uk,Uk,Uk,.own 1 0,iD 0]++AF 86 Uk) (1<2/\True) rfl (by rw[htlen];rfl) (.inr λj hj=>by simp only[zAt,refs,Bp]) (λ_ _=>rfl) (by kernel_rfl) (by kernel_rfl) ⟨by decide,trivial⟩ ?_;refine zG<|vret (1<=1)<|.inr rfl
end
section
variable{n na:Nat}{vs:Nat->List Nat}
def Szs(na M:Nat)(its:List It):Prop:=∀a,a<na->∀k,(vls (its.getD a Ad).t k).length<=M
theorem Szs.of{its':List It}(h:Szs na M its)(ht:∀a,a<na->(its'.getD a Ad).t=(its.getD a Ad).t):Szs na M its':=λa ha k=>by rw[ht a ha];exact h a ha k
theorem mtF_mono(h:k<=l):mtF k M<=mtF l M:=by
 unfold mtF;have h1:=A1 M h
 have:=Nat.mul_le_mul h1 (BW h)
 grind
def cM(na M:Nat):Nat:=mtF na M*(M+2)
def cE(na M:Nat):Nat->Nat
 |0=>1
 |m+1=>cM na M+M*(cE na M m+cM na M)
theorem mtF_cM(na M:Nat):mtF na M<=cM na M:=by
 grind [cM,Nat.le_mul_of_pos_right]
theorem ats_len(v:Nat):(ats na vs v).length<=na:=by
 grind [ats,Av,Cc]
theorem rng_le(h:LvI it)(hM:∀k,(vls it.t k).length<=M):it.e-it.p<=M:=by
 rcases Ax it.p it.e with hp|hp
 ·have:=(h.len hp).1
  have:=hM (it.l-1)
  omega
 omega
theorem zNa(hv:Vok n na vs)(hvn:v<n)(hi:InV na vs v its)(hM:Szs na M its)(hs:s+cM na M+1<=big)(hst:∀a,a<na->(its.getD a Ad).s+cM na M<=big)
  (hp:∀i∈ats na vs v,i≠(ats na vs v).getD 0 0->(its.getD i Ad).p<(its.getD i Ad).e):
  (metJ (ats na vs v) its s).2.1<=s+cM na M/\∀a,a<na->((metJ (ats na vs v) its s).1.getD a Ad).s<=(its.getD a Ad).s+cM na M:=by
 have h0:=hv.pos hvn;have hm:=zA8 h0;have hla:∀i∈ats na vs v,i<na/\v∈vs i:=λi h=>(zAf na vs).1 h;have hlv:∀i∈ats na vs v,LvI (its.getD i Ad):=λi h=>(hi.inn i (hla i h).1 (hla i h).2).lv;have hrg:∀i∈ats na vs v,(its.getD i Ad).e-(its.getD i Ad).p<=M:=λi h=>rng_le (hlv i h) (hM i (hla i h).1);have hmet:=zE2 (ats na vs v) (zMv na vs v) h0 its s (λi h=>⟨by rw[hi.len];exact(hla i h).1,hlv i h⟩) hp;unfold metJ at hmet⊢;have hon:=zRh (hlv _ hm);by_cases h:(its.getD ((ats na vs v).getD 0 0) Ad).p<(its.getD ((ats na vs v).getD 0 0) Ad).e
 ·rw[decide_eq_true h]at hon;rw[hon,if_pos rfl]at hmet⊢;have hms:=msr_le (ats na vs v) its (keyI (its.getD ((ats na vs v).getD 0 0) Ad)) 1 M hrg;have hmn:=mtF_mono (M:=M) (ats_len (na:=na) (vs:=vs) v);have hmm:msr (ats na vs v) its (keyI (its.getD ((ats na vs v).getD 0 0) Ad)) 1*(M+2)<=cM na M:=A1 _ (Av hms hmn);have hf:=mtF_cM na M;have hMI:MI (ats na vs v) na M its (keyI (its.getD ((ats na vs v).getD 0 0) Ad)) 1 1 s (msr (ats na vs v) its (keyI (its.getD ((ats na vs v).getD 0 0) Ad)) 1):=by
   refine⟨hi.len,λi h=>(hla i h).1,λi h'=>⟨hlv i h',?_,hrg i h'⟩,λi h'=>by have:=hst i (hla i h').1;omega,Au _,h0,by omega,by omega,Au _⟩;grind
  obtain⟨c1,c2⟩:=mtL_cost (ats na vs v) na M _ _ _ _ _ _ hMI;refine⟨by omega,λa ha=>?_⟩;by_cases hma:a∈ats na vs v
  ·have:=c2 a hma;omega
  rw[hmet.out a hma];omega
 grind
theorem lp_atv(hv:Vok n na vs)(hi:InV na vs v its){c:Va}(hc:∀i∈ats na vs v,(its.getD i Ad).p<(its.getD i Ad).e/\keyI (its.getD i Ad)=c):AtV na vs (v+1) its:=⟨hi.len,λa ha=>by
  by_cases hva:v∈vs a
  ·rw[cnt_in hv ha hva];exact(hi.inn a ha hva).at (hc a ((zAf na vs).2 ⟨ha,hva⟩)).1
  rw[cnt_out hv ha hva];exact hi.out a ha hva⟩
theorem lp_nx(hv:Vok n na vs)(hvn:v<n){its1:List It}(hi:InV na vs v its)(hc:∀i∈ats na vs v,(its.getD i Ad).p<(its.getD i Ad).e)(hl:its1.length=na)(hr:∀a,a<na->Res (its.getD a Ad) (its1.getD a Ad)):
  InV na vs v (its1.set ((ats na vs v).getD 0 0) (nxI (its1.getD ((ats na vs v).getD 0 0) Ad)))/\∀i∈ats na vs v,i≠(ats na vs v).getD 0 0->((its1.set ((ats na vs v).getD 0 0) (nxI (its1.getD ((ats na vs v).getD 0 0) Ad))).getD i Ad).p<((its1.set ((ats na vs v).getD 0 0) (nxI (its1.getD ((ats na vs v).getD 0 0) Ad))).getD i Ad).e:=by
 have h0:=hv.pos hvn;have hi0:=zA8 h0;obtain⟨hi1,hi2⟩:=(zAf na vs).1 hi0;have hl1:(ats na vs v).getD 0 0<its1.length:=by rw[hl];exact hi1
 refine⟨⟨by rw[AO];exact hl,λa ha hva=>?_,λa ha hva=>?_⟩,λa ha hne=>?_⟩
 ·have hh:=res_inn (hi.inn a ha hva) (hr a ha);by_cases e:a=(ats na vs v).getD 0 0
  ·subst e;rw[zAg hl1];exact nx_inn hh (by rw[(hr _ ha).p,(hr _ ha).e];exact hc _ hi0)
  grind
 ·rw[zBj (λe=>hva (by rw[e];exact hi2))];exact(hi.out a ha hva).res (hr a ha)
 rw[zBj hne,(hr a ((zAf na vs).1 ha).1).p,(hr a ((zAf na vs).1 ha).1).e];exact hc a ha
theorem zPh(v:Nat)(hl:its.length=na)(j:Nat):(zCs (ats na vs v) its).getD j Ad=if j∈ats na vs v then opI (its.getD j Ad)else its.getD j default:=
 zJ6 opI _ _ (zMv na vs v) (λi hi=>by rw[hl];exact((zAf na vs).1 hi).1) j
theorem op_inv(hv:Vok n na vs)(ha:AtV na vs v its):InV na vs v (zCs (ats na vs v) its)/\∀i∈ats na vs v,((zCs (ats na vs v) its).getD i Ad).p<((zCs (ats na vs v) its).getD i Ad).e:=by
 have hg:=zPh (vs:=vs) v ha.len;refine⟨⟨by rw[show(zCs (ats na vs v) its).length=its.length from zMc opI _ _];exact ha.len,λa h1 h2=>?_,λa h1 h2=>?_⟩,λi hi=>?_⟩
 ·rw[hg,if_pos ((zAf na vs).2 ⟨h1,h2⟩)];exact(zPg (ha.one a h1) (zMt hv h1 h2)).1
 ·rw[hg,if_neg λh=>h2 ((zAf na vs).1 h).2];exact ha.one a h1
 obtain⟨h1,h2⟩:=(zAf na vs).1 hi;rw[hg,if_pos hi];exact(zPg (ha.one i h1) (zMt hv h1 h2)).2.1
theorem opI_s(it:It):(opI it).s=it.s/\(opI it).t=it.t/\(opI it).fr.length=it.fr.length:=by
 grind [opI]
theorem op_same(v:Nat)(hl:its.length=na)(a:Nat):((zCs (ats na vs v) its).getD a Ad).s=(its.getD a Ad).s/\((zCs (ats na vs v) its).getD a Ad).t=(its.getD a Ad).t/\((zCs (ats na vs v) its).getD a Ad).fr.length=(its.getD a Ad).fr.length:=by
 grind [zPh,opI_s]
theorem upAll_get(v:Nat)(hl:its.length=na)(j:Nat):(zJl (ats na vs v) its).getD j Ad=if j∈ats na vs v then upI (its.getD j Ad)else its.getD j default:=
 zJ6 upI _ _ (zMv na vs v) (λi hi=>by rw[hl];exact((zAf na vs).1 hi).1) j
theorem up_same(v:Nat)(hl:its.length=na)(a:Nat):((zJl (ats na vs v) its).getD a Ad).s=(its.getD a Ad).s:=by
 rw[upAll_get v hl];split<;>rfl
theorem metJ_no(ix:List Nat)(its:List It)(s:Nat)(h:onI (its.getD (ix.getD 0 0) Ad)=Ac):metJ ix its s=(its,s,Ac):=by
 grind [metJ]
theorem lp_cost(hv:Vok n na vs)(hvn:v<n)(rec:Js->Js)(hrec:∀S,AtV na vs (v+1) S.its->S.row.length=n->ExtP n na vs (v+1) S (rec S))
  (hcost:∀S,AtV na vs (v+1) S.its->S.row.length=n->Szs na M S.its->S.s+cE na M m+1<=big->(∀a,a<na->(S.its.getD a Ad).s+cE na M m<=big)->(rec S).s<=S.s+cE na M m/\∀a,a<na->((rec S).its.getD a Ad).s<=(S.its.getD a Ad).s+cE na M m):
  ∀(f:Nat)(b:Bool)(S:Js),InV na vs v S.its->S.row.length=n->Szs na M S.its->(b=Ab->∃c,∀i∈ats na vs v,(S.its.getD i Ad).p<(S.its.getD i Ad).e/\keyI (S.its.getD i Ad)=c)->S.s+f*(cE na M m+cM na M)+1<=big->(∀a,a<na->(S.its.getD a Ad).s+f*(cE na M m+cM na M)<=big)->
   (lpJ rec (ats na vs v) v f b S).s<=S.s+f*(cE na M m+cM na M)/\∀a,a<na->((lpJ rec (ats na vs v) v f b S).its.getD a Ad).s<=(S.its.getD a Ad).s+f*(cE na M m+cM na M):=by
 have h0:=hv.pos hvn;have hi0:=zA8 h0;obtain⟨hi1,hi2⟩:=(zAf na vs).1 hi0;intro f;induction f with
 |zero=>intro b S hi hr hM hb hs hst;exact⟨by show S.s<=_;omega,λa ha=>by show(S.its.getD a Ad).s<=_;omega⟩
 | succ f ih=>
  intro b S hi hr hM hb hs hst;cases b with
  |false=>rw[zKv];exact⟨by omega,λa ha=>by omega⟩
  | true=>
   rw[A5]at hs⊢;have hst:∀a,a<na->(S.its.getD a Ad).s+(f*(cE na M m+cM na M)+(cE na M m+cM na M))<=big:=λa ha=>by have:=hst a ha;rw[A5]at this;exact this
   obtain⟨c,hc⟩:=hb rfl;obtain⟨S1,hS1⟩:∃S1,S1=rec {S with row:=S.row.set v (keyI (S.its.getD ((ats na vs v).getD 0 0) Ad))}:=⟨_,rfl⟩;have hR:=hrec {S with row:=S.row.set v (keyI (S.its.getD ((ats na vs v).getD 0 0) Ad))} (lp_atv hv hi hc) (by simpa using hr);have hC:=hcost {S with row:=S.row.set v (keyI (S.its.getD ((ats na vs v).getD 0 0) Ad))} (lp_atv hv hi hc) (by simpa using hr) hM (by show S.s+_+1<=_;omega) (λa ha=>by show(S.its.getD a Ad).s+_<=_;have:=hst a ha;omega);rw[<-hS1]at hR hC;obtain⟨r1,r2,r3,r4,r5⟩:=hR;obtain⟨c1,c2⟩:=hC;simp only at r2 c1 c2;have hl1:(ats na vs v).getD 0 0<S1.its.length:=by rw[r1];exact hi1
   rw[zTi rec _ v f S S1 _ hS1 rfl hl1];obtain⟨n1,n2⟩:=lp_nx hv hvn hi (λi h=>(hc i h).1) r1 r2;have hsz:∀a,a<na->((S1.its.set ((ats na vs v).getD 0 0) (nxI (S1.its.getD ((ats na vs v).getD 0 0) Ad))).getD a Ad).s=(S1.its.getD a Ad).s/\((S1.its.set ((ats na vs v).getD 0 0) (nxI (S1.its.getD ((ats na vs v).getD 0 0) Ad))).getD a Ad).t=(S.its.getD a Ad).t:=λa ha=>by
    by_cases e:a=(ats na vs v).getD 0 0
    ·subst e;rw[zAg hl1];exact⟨rfl,(r2 _ ha).t⟩
    rw[zBj e];exact⟨rfl,(r2 _ ha).t⟩
   generalize S1.its.set ((ats na vs v).getD 0 0) (nxI (S1.its.getD ((ats na vs v).getD 0 0) Ad))=its2 at*;have hm:=zE2 (ats na vs v) (zMv na vs v) h0 its2 S1.s (λa ha=>⟨by rw[n1.len];exact((zAf na vs).1 ha).1,(n1.inn a ((zAf na vs).1 ha).1 ((zAf na vs).1 ha).2).lv⟩) n2;have hM2:=hM.of λa ha=>(hsz a ha).2;obtain⟨m1,m2⟩:=zNa hv hvn n1 hM2 (s:=S1.s) (by omega) (λa ha=>by have:=(hsz a ha).1;have:=c2 a ha;have:=hst a ha;omega) n2;generalize metJ (ats na vs v) its2 S1.s=r at*;have hM3:Szs na M r.1:=hM2.of λa ha=>by
    by_cases hma:a∈ats na vs v
    ·exact(hm.adv a hma).t
    rw[hm.out a hma]
   obtain⟨i1,i2⟩:=ih r.2.2 {S1 with its:=r.1,s:=r.2.1} (zG0 n1 hm) r3 hM3 hm.key (by show r.2.1+_+1<=_;omega) (λa ha=>by
    show(r.1.getD a Ad).s+_<=_
    have:=(hsz a ha).1;have:=c2 a ha;have:=hst a ha;have:=m2 a ha;omega)
   grind
theorem zTz(hv:Vok n na vs)(M:Nat):∀(m v:Nat)(S:Js),m+v=n->AtV na vs v S.its->S.row.length=n->Szs na M S.its->S.s+cE na M m+1<=big->(∀a,a<na->(S.its.getD a Ad).s+cE na M m<=big)->(extJ (ats na vs) m v S).s<=S.s+cE na M m/\∀a,a<na->((extJ (ats na vs) m v S).its.getD a Ad).s<=(S.its.getD a Ad).s+cE na M m:=by
 intro m;induction m with
 |zero=>intro v S hmv ha hr hM hs hst;exact⟨Au _,λa _=>by show(S.its.getD a Ad).s<=_;omega⟩
 | succ m ih=>
  intro v S hmv ha hr hM hs hst;have hvn:v<n:=by omega
  have h0:=hv.pos hvn;have hi0:=zA8 h0;obtain⟨hi1,hi2⟩:=(zAf na vs).1 hi0;obtain⟨o1,o2⟩:=op_inv hv ha;have o3:=op_same (vs:=vs) v ha.len;rw[cE]at hs⊢;have hst:∀a,a<na->(S.its.getD a Ad).s+(cM na M+M*(cE na M m+cM na M))<=big:=hst;unfold extJ;simp only;generalize zCs (ats na vs v) S.its=its1 at*;have hM1:Szs na M its1:=hM.of λa _=>(o3 a).2.1;have hm:=zE2 (ats na vs v) (zMv na vs v) h0 its1 S.s (λa h=>⟨by rw[o1.len];exact((zAf na vs).1 h).1,(o1.inn a ((zAf na vs).1 h).1 ((zAf na vs).1 h).2).lv⟩) (λa h _=>o2 a h);obtain⟨m1,m2⟩:=zNa hv hvn o1 hM1 (s:=S.s) (by omega) (λa ha=>by rw[(o3 a).1];have:=hst a ha;omega) (λa h _=>o2 a h);have hfe:(its1.getD ((ats na vs v).getD 0 0) Ad).e<=M:=by
   have:=((o1.inn _ hi1 hi2).lv.len (o2 _ hi0)).1
   have:=hM1 _ hi1 ((its1.getD ((ats na vs v).getD 0 0) Ad).l-1)
   omega
  generalize metJ (ats na vs v) its1 S.s=r at*;have hM3:Szs na M r.1:=hM1.of λa ha=>by
   by_cases hma:a∈ats na vs v
   ·exact(hm.adv a hma).t
   rw[hm.out a hma]
  have hmul:=A1 (cE na M m+cM na M) hfe;have hL:=lp_cost (m:=m) hv hvn (extJ (ats na vs) m (v+1)) (λS h1 h2=>zLa hv m (v+1) S (by omega) h1 h2) (λS h1 h2 h3 h4 h5=>ih (v+1) S (by omega) h1 h2 h3 h4 h5) ((its1.getD ((ats na vs v).getD 0 0) Ad).e) r.2.2 {S with its:=r.1,s:=r.2.1} (zG0 o1 hm) hr hM3 hm.key (by show r.2.1+_+1<=big;omega) (λa ha=>by
   show(r.1.getD a Ad).s+_<=big
   have:=m2 a ha;have:=(o3 a).1;have:=hst a ha;omega)
  ·obtain⟨l1,l2⟩:=hL;simp only at l1 l2;refine⟨by omega,λa ha=>?_⟩;have e:=up_same (vs:=vs) v (its:=(lpJ (extJ (ats na vs) m (v+1)) (ats na vs v) v ((its1.getD ((ats na vs v).getD 0 0) Ad).e) r.2.2 {S with its:=r.1,s:=r.2.1}).its) (na:=na) ?_ a
   ·grind
   exact(zY7 hv hvn (extJ (ats na vs) m (v+1)) (λS h1 h2=>zLa hv m (v+1) S (by omega) h1 h2) ((its1.getD ((ats na vs v).getD 0 0) Ad).e) r.2.2 {S with its:=r.1,s:=r.2.1} (zG0 o1 hm) hr (λhf' d hd=>by
    have:=(hm.com d).1 λi hi=>(hm.adv i hi).has (hd i hi)
    rw[hf']at this;exact absurd this.1 (by decide)) hm.key (by
    show(r.1.getD _ Ad).e-_<=_;rw[(hm.adv _ hi0).e];omega)).len
end
section
open Go.RowKit
attribute [local irreducible] seqW awp zY zZ zR Weak updS zAe retL Pure Acts rP setP setQ cP nP fr
set_option maxRecDepth 4096
theorem lp_ys(rec:Js->Js)(ix:List Nat)(v:Nat)(hrec:∀S,S.ys.length<=(rec S).ys.length):∀(f:Nat)(b:Bool)(S:Js),S.ys.length<=(lpJ rec ix v f b S).ys.length
 |0,b,S=>Au _
 |f+1,Ac,S=>Au _
 | f+1,Ab,S=>by
  have h1:=hrec {S with row:=S.row.set v (keyI (S.its.getD (ix.getD 0 0) Ad))};rw[lpJ];split
  ·refine Av h1 (Av (Nat.le_of_eq ?_) (lp_ys rec ix v hrec f _ _));rfl
  exact h1
theorem ext_ys(ats:Nat->List Nat):∀(m v:Nat)(S:Js),S.ys.length<=(extJ ats m v S).ys.length
 |0,v,S=>by
  show S.ys.length<=(S.ys++[S.row]).length;simp
 |m+1,v,S=>lp_ys (extJ ats m (v+1)) (ats v) v (ext_ys ats m (v+1)) _ _ {S with its:=(metJ (ats v) (zCs (ats v) S.its) S.s).1,s:=(metJ (ats v) (zCs (ats v) S.its) S.s).2.1}
def YOk(L:Lay)(K:Nat):Prop:=∀S:Js,S.its.length=L.na->S.row.length=L.n->S.ys.length<K->Acts Am 41 [.osl L.rb 0 L.n (L.n*3) Ab, .own L.cb 0] (lay L S) L.ch (bD Ab) (lay L {S with ys:=S.ys++[S.row]})
theorem Tj_keep2:∀k,k<(lay L S).length->(Tj L.N L.ch).keep k=Ab\/k∈L.ch:=λk hk=>by
 rw[zBd]at hk;by_cases h:k∈L.ch
 ·exact .inr h
 refine .inl ?_;show(decide (k<L.N)&&!L.ch.contains k)=Ab;rw[decide_eq_true hk];simpa using h
theorem Tj_ch:∀k∈ch,(Tj N ch).keep k=false:=λk hk=>by
 show(decide (k<N)&&!ch.contains k)=Ac;simp[hk]
theorem LOk.cht(h:LOk L):L.jb∉L.ch/\L.rb∉L.ch/\L.tb∉L.ch/\(∀v,v<L.n->L.ab v∉L.ch)/\∀i,i<L.na->L.ib i∉L.ch:=
 ⟨λk=>(h.ch _ k).1 rfl,λk=>(h.ch _ k).2.1 rfl,λk=>(h.ch _ k).2.2.1 rfl,λv hv k=>(h.ch _ k).2.2.2.1 v hv rfl,λi hi k=>(h.ch _ k).2.2.2.2 i hi rfl⟩
theorem extend0_a(L:Lay)(hL:LOk L)(K:Nat)(hY:YOk L K)(S:Js)(hn:S.its.length=L.na)(hr:S.row.length=L.n)(h32:L.n<=1000000)(hs:S.s+1<=big)(hK:S.ys.length<K):Acts Am 79 [.own L.jb 0,iD (L.n:Nat)] (lay L S) L.ch (bD Ab) (lay L {S with s:=S.s+1,ys:=S.ys++[S.row]}):=by
 have hy:=hY {S with s:=S.s+1} hn hr hK;have hs2:S.s+1<=100000000000000000:=hs;obtain⟨c1,c2,c3,c4,c5⟩:=hL.cht;have hj2:(lay L {S with s:=S.s+1})[L.jb]?=Ah (jB L (S.s+1)):=zQy hL;refine zA1 (Tj_ok L.N L.ch) mixed Tryz.func79 rfl Tj_keep2<|vA<|zAh [] [(4,bD Ac)] ?_;refine zA<|vA<|zBa 4 [(12,iD ↑(Lay.n L)),(13,Ae (Lay.jb L) 0),(14,Ae (Lay.jb L) 0),(15,Ae (Lay.jb L) 0)] ?_;refine zAs (Ai [Ag (Lay.rb L) 0 (Lay.n L) (Lay.n L*3) Ab,Ag (Lay.tb L) 0 (Lay.n L) (Lay.n L) Ab,iD ↑(Js.s S),AB (Fn.func 41) [] [Ae (Lay.cb L) 0]] 181 0 Ac Ac Aj) (Lay.jb L) (Ay 1 4) (Ag (Lay.rb L) 0 (Lay.n L) (Lay.n L*3) Ab) (zQy (S:=S) hL) (by simp) ?_;refine zAh [12,13,14,15,16,17] [(18,bD ((↑(Lay.n L):Int)==(↑(Lay.n L):Int)))] ?_;refine vEt ((↑(Lay.n L):Int)) ((↑(Lay.n L):Int))<|vA<|zBa 3 [(19,Ae (Lay.jb L) 0),(20,Ae (Lay.jb L) 0),(21,Ae (Lay.jb L) 2)] ?_;refine zAs (Ai [Ag (Lay.rb L) 0 (Lay.n L) (Lay.n L*3) Ab,Ag (Lay.tb L) 0 (Lay.n L) (Lay.n L) Ab,iD ↑(Js.s S),AB (Fn.func 41) [] [Ae (Lay.cb L) 0]] 181 0 Ac Ac Aj) (Lay.jb L) (Ay 1 2) (iD ↑(Js.s S)) (zQy (S:=S) hL) (by simp) ?_;refine zX 3 [] [] (i6 (↑(Js.s S)+1)/\True) [(23,iD ↑(Js.s S+1)),(24,Ae (Lay.jb L) 0),(25,Ae (Lay.jb L) 2)] ?_ (hc:=⟨(by omega),trivial⟩);refine zCh (Ai [Ag (Lay.rb L) 0 (Lay.n L) (Lay.n L*3) Ab,Ag (Lay.tb L) 0 (Lay.n L) (Lay.n L) Ab,iD ↑(Js.s S),AB (Fn.func 41) [] [Ae (Lay.cb L) 0]] 181 0 Ac Ac Aj) (Lay.jb L) (Ac=Ac/\Ab=Ab/\1=1/\3<=4) (Ai [Ag (Lay.rb L) 0 (Lay.n L) (Lay.n L*3) Ab,Ag (Lay.tb L) 0 (Lay.n L) (Lay.n L) Ab,iD ↑(Js.s S+1),AB (Fn.func 41) [] [Ae (Lay.cb L) 0]] 181 0 Ac Ac Aj) (zQy (S:=S) hL) ⟨(by kernel_rfl),⟨(by kernel_rfl),(by omega)⟩⟩ ?_;rw[zPv hL];refine zAh [18,19,20,21,22,23,24,25] [] ?_;refine zA<|vd [0,1,2,4,5,6,3,7,8,9]<|zX 6 [] [] (True/\True) [(26,Ae (Lay.jb L) 0),(27,Ae (Lay.jb L) 0),(28,Ae (Lay.jb L) 3),(30,Ae (Lay.jb L) 0),(31,Ae (Lay.jb L) 0),(32,Ae (Lay.jb L) 0)] ?_ (hc:=⟨trivial,trivial⟩);refine zAs (Ai [Ag (Lay.rb L) 0 (Lay.n L) (Lay.n L*3) Ab,Ag (Lay.tb L) 0 (Lay.n L) (Lay.n L) Ab,iD ↑(Js.s S+1),AB (Fn.func 41) [] [Ae (Lay.cb L) 0]] 181 0 Ac Ac Aj) (Lay.jb L) (Ay 1 1) (AB (Fn.func 41) [] [Ae (Lay.cb L) 0]) hj2 (by simp) ?_;refine zAs (Ai [Ag (Lay.rb L) 0 (Lay.n L) (Lay.n L*3) Ab,Ag (Lay.tb L) 0 (Lay.n L) (Lay.n L) Ab,iD ↑(Js.s S+1),AB (Fn.func 41) [] [Ae (Lay.cb L) 0]] 181 0 Ac Ac Aj) (Lay.jb L) (Ay 1 4) (Ag (Lay.rb L) 0 (Lay.n L) (Lay.n L*3) Ab) hj2 (by simp) ?_;focus
  refine zSo [] [] [Ag (Lay.rb L) 0 (Lay.n L) (Lay.n L*3) Ab,Ae (Lay.cb L) 0] [Ag (Lay.rb L) 0 (Lay.n L) (Lay.n L*3) Ab,Ae (Lay.cb L) 0] (¬Lay.jb L∈Lay.ch L/\¬Lay.jb L∈Lay.ch L/\¬Lay.jb L∈Lay.ch L/\¬Lay.jb L∈Lay.ch L/\¬Lay.cb L∈Lay.ch L/\¬Lay.jb L∈Lay.ch L/\¬Lay.jb L∈Lay.ch L/\¬Lay.jb L∈Lay.ch L/\¬Lay.rb L∈Lay.ch L/\True) (by kernel_rfl) trivial (Az _) (by exact hy) (by kernel_rfl) ?_ ?_ ?_;rotate_left;rotate_left;refine zAh [26,27,28,29,30,31,32,33,34] [(4,bD Ab)] ?_;refine zG<|zE<|zT (True) [Al<|A3 Ab] (.inr rfl) ?_;rotate_left
 ·exact Tj_ch
 ·exact⟨c1,c1,c1,c1,hL.cb.2,c1,c1,c1,c2,trivial⟩
 exact⟨by kernel_rfl,rfl⟩
theorem hd_tb(L:Lay)(v:Nat)(h:v<L.n):(((Aw L.n).map λv=>Ag (L.ab v) 0 (L.ix v).length (L.ix v).length Ab).drop v).headD .unk= .osl (L.ab v) 0 (L.ix v).length (L.ix v).length true:=by
 simp_all
theorem opAll_succ(ix:List Nat)(its:List It)(t:Nat)(h:t<ix.length):zCs (ix.take (t+1)) its=(zCs (ix.take t) its).set (ix.getD t 0) (opI ((zCs (ix.take t) its).getD (ix.getD t 0) Ad)):=by
 unfold zCs;rw[zB2 ix 0 t h,BX];rfl
theorem upAll_succ(ix:List Nat)(its:List It)(t:Nat)(h:t<ix.length):zJl (ix.take (t+1)) its=(zJl (ix.take t) its).set (ix.getD t 0) (upI ((zJl (ix.take t) its).getD (ix.getD t 0) Ad)):=by
 unfold zJl;rw[zB2 ix 0 t h,BX];rfl
theorem zHd{ix:List Nat}(hn:ix.Nodup)(h:t<ix.length):ix.getD t 0∉ix.take t:=by grind [BB,BZ,AL,List.getElem_inj]
theorem opAll_at(ix:List Nat)(hn:ix.Nodup)(its:List It)(hl:∀i∈ix,i<its.length)(t:Nat)(h:t<ix.length):(zCs (ix.take t) its).getD (ix.getD t 0) Ad=its.getD (ix.getD t 0) default:=by
 unfold zCs;rw[zJ6 opI (ix.take t) its (List.Sublist.nodup (List.take_sublist _ _) hn) (λi hi=>hl i (Cj hi)),if_neg (zHd hn h)]
theorem upAll_at(ix:List Nat)(hn:ix.Nodup)(its:List It)(hl:∀i∈ix,i<its.length)(t:Nat)(h:t<ix.length):(zJl (ix.take t) its).getD (ix.getD t 0) Ad=its.getD (ix.getD t 0) default:=by
 unfold zJl;rw[zJ6 upI (ix.take t) its (List.Sublist.nodup (List.take_sublist _ _) hn) (λi hi=>hl i (Cj hi)),if_neg (zHd hn h)]
def Bds(na:Nat)(its:List It):Prop:=∀a,a<na->BdI (its.getD a Ad)
theorem extend_a(L:Lay)(hL:LOk L)(hv:Vok L.n L.na L.vs)(M K:Nat)(hY:YOk L K)(h32:L.n<=1000000)(hna:L.na<=1000000):∀(m v:Nat)(S:Js),m+v=L.n->AtV L.na L.vs v S.its->S.row.length=L.n->Bds L.na S.its->Szs L.na M S.its->S.s+cE L.na M m+1<=big->(∀a,a<L.na->(S.its.getD a Ad).s+cE L.na M m<=big)->(extJ L.ix m v S).ys.length<=K->
  Acts Am 79 [.own L.jb 0,iD (v:Nat)] (lay L S) L.ch (bD Ab) (lay L (extJ L.ix m v S)):=by
 intro m;induction m with
 |zero=>
  intro v S hmv ha hr hb hM hs hst hK;obtain rfl:v=L.n:=by omega
  refine extend0_a L hL K hY S ha.len hr h32 (by show S.s+1<=_;have:cE L.na M 0=1:=rfl;omega) ?_;grind [extJ]
 | succ m ih=>
  intro v S hmv ha hr hb hM hs hst hK;have hvn:v<L.n:=by omega
  have h0:0<(L.ix v).length:=hv.pos hvn;have hi0:(L.ix v).getD 0 0∈L.ix v:=zA8 h0;obtain⟨hi1,hi2⟩:(L.ix v).getD 0 0<L.na/\v∈L.vs ((L.ix v).getD 0 0):=(zAf L.na L.vs).1 hi0;have hnd:(L.ix v).Nodup:=zMv L.na L.vs v;have hix:∀i∈L.ix v,i<L.na:=λi hi=>zW3 hi;have hln:(L.ix v).length<=L.na:=ats_len v;have hls:∀i∈L.ix v,i<S.its.length:=λi hi=>by rw[ha.len];exact hix i hi
  obtain⟨o1,o2⟩:=op_inv hv ha;have o3:=op_same (vs:=L.vs) v ha.len;have hlj:=zQy (S:=S) hL;have hlt:=lay_t (S:=S) hL;have htb:=hd_tb L v hvn;refine zA1 (Tj_ok L.N L.ch) mixed Tryz.func79 rfl Tj_keep2<|vA<|zAh [] [(4,bD Ac)] ?_;refine zA<|vA<|zBa 4 [(12,iD v),(13,Ae (Lay.jb L) 0),(14,Ae (Lay.jb L) 0),(15,Ae (Lay.jb L) 0)] ?_;refine zAs (Ai [Ag (Lay.rb L) 0 (Lay.n L) (Lay.n L*3) Ab,Ag (Lay.tb L) 0 (Lay.n L) (Lay.n L) Ab,iD ↑(Js.s S),AB (Fn.func 41) [] [Ae (Lay.cb L) 0]] 181 0 Ac Ac Aj) (Lay.jb L) (Ay 1 4) (Ag (Lay.rb L) 0 (Lay.n L) (Lay.n L*3) Ab) hlj (by simp) ?_;refine zAh [12,13,14,15,16,17] [(18,bD ((v:Int)==↑(Lay.n L)))] ?_;refine vEf ((v:Int)) ((↑(Lay.n L):Int))<|vK<|vA<|zBa 3 [(35,Ae (Lay.jb L) 0),(36,Ae (Lay.jb L) 0),(37,Ae (Lay.jb L) 1)] ?_;refine zAs (Ai [Ag (Lay.rb L) 0 (Lay.n L) (Lay.n L*3) Ab,Ag (Lay.tb L) 0 (Lay.n L) (Lay.n L) Ab,iD ↑(Js.s S),AB (Fn.func 41) [] [Ae (Lay.cb L) 0]] 181 0 Ac Ac Aj) (Lay.jb L) (Ay 1 3) (Ag (Lay.tb L) 0 (Lay.n L) (Lay.n L) Ab) hlj (by simp) ?_;refine zX 2 [] [] ((0:Int)<=(v:Int)/\(v:Int)<↑(Lay.n L)) [(39,iD v),(40,Ae (Lay.tb L) (0+Ao (v:Int)*1))] ?_;refine zAp 40 (Ae (Lay.tb L) (0+Ao (v:Int)*1)) (Ae (Lay.tb L) v) (by simp(disch:=omega) only[AS,AZ,AT]) ?_;refine zAs (Ai (Af (λ(v:Nat)=>Ag (Lay.ab L v) 0 (Aa<|Lay.ix L v) (Aa<|Lay.ix L v) Ab)<|Aw<|Lay.n L) 182 1 Ab Ac AM) (Lay.tb L) (Ay 1<|Aa<|Ak v<|Af (λ(v:Nat)=>Ag (Lay.ab L v) 0 (Aa<|Lay.ix L v) (Aa<|Lay.ix L v) Ab)<|Aw<|Lay.n L) (AG (Ak v<|Af (λ(v:Nat)=>Ag (Lay.ab L v) 0 (Aa<|Lay.ix L v) (Aa<|Lay.ix L v) Ab)<|Aw<|Lay.n L) Uk) hlt (by(simp;omega)) ?_;refine zBa 1 [(5,AG (Ak v<|Af (λ(v:Nat)=>Ag (Lay.ab L v) 0 (Aa<|Lay.ix L v) (Aa<|Lay.ix L v) Ab)<|Aw<|Lay.n L) Uk)] ?_;refine zAp 5 (AG (Ak v<|Af (λ(v:Nat)=>Ag (Lay.ab L v) 0 (Aa<|Lay.ix L v) (Aa<|Lay.ix L v) Ab)<|Aw<|Lay.n L) Uk) (Ag (Lay.ab L v) 0 (Aa<|Lay.ix L v) (Aa<|Lay.ix L v) Ab) (by simp(disch:=omega) only[htb]) ?_;refine zAh [18,35,36,37,38,39,40,41] [] ?_;refine zA<|vA<|zAh [] [(42,Ag (Lay.ab L v) 0 (Aa<|Lay.ix L v) (Aa<|Lay.ix L v) Ab),(43,iD (Aa (Lay.ix L v):Int)),(44,iD 0)] ?_;refine zF<|zN (λ(t:Nat)=>fr 93 [(0,Ae (Lay.jb L) 0),(1,iD v),(4,bD Ac),(5,Ag (Lay.ab L v) 0 (Aa<|Lay.ix L v) (Aa<|Lay.ix L v) Ab),(42,Ag (Lay.ab L v) 0 (Aa<|Lay.ix L v) (Aa<|Lay.ix L v) Ab),(43,iD (Aa (Lay.ix L v):Int)),(44,iD t)]) (λ(t:Nat)=>lay L {S with its:=zCs ((L.ix v).take t) S.its}) (λ(t:Nat)=>(L.ix v).length-t) (λ(t:Nat)=>t<=(L.ix v).length) 0 ?_ ?_ ?_
  ·omega
  ·refine vkp [0,1,4,5,42,43,44]
  intro t ht;rcases Ax t (L.ix v).length with ht2|ht2
  ·have hhd:=hd_ix L (L.ix v) t ht2;have hmm:=zA8 ht2;have hat:=opAll_at (L.ix v) hnd S.its hls t ht2;have hsu:=opAll_succ (L.ix v) S.its t ht2;obtain⟨q1,q2⟩:=(zAf L.na L.vs).1 hmm;have hop:=open_g (k:=L.ib ((L.ix v).getD t 0)) (it:=(zCs ((L.ix v).take t) S.its).getD ((L.ix v).getD t 0) Ad) (zTm (S:={S with its:=zCs ((L.ix v).take t) S.its}) hL q1) (by rw[hat];exact ha.one _ q1) (by rw[hat];exact hb _ q1) (zMt hv q1 q2);rw[zK0 hL q1 (by rw[show(zCs ((L.ix v).take t) S.its).length=S.its.length from zMc opI _ _,ha.len];exact q1),<-hsu]at hop;refine vA<|zAh [] [(45,bD<|decide ((t:Int)<(Aa (Lay.ix L v):Int)))] ?_;refine zA<|vT ((t:Int)<(Aa (Lay.ix L v):Int))<|vKB<|vA<|zX 1 [] [] ((0:Int)<=(t:Int)/\(t:Int)<(Aa (Lay.ix L v):Int)) [(46,Ae (Lay.ab L v) (0+Ao (t:Int)*1))] ?_;refine zAp 46 (Ae (Lay.ab L v) (0+Ao (t:Int)*1)) (Ae (Lay.ab L v) t) (by simp(disch:=omega) only[AS,AZ,AT]) ?_;refine zAs (Ai (Af (λ(i:Nat)=>Ae (Lay.ib L i) 0)<|Lay.ix L v) 188 1 Ab Ac AM) (Lay.ab L v) (Ay 1<|Aa<|Ak t<|Af (λ(i:Nat)=>Ae (Lay.ib L i) 0)<|Lay.ix L v) (AG (Ak t<|Af (λ(i:Nat)=>Ae (Lay.ib L i) 0)<|Lay.ix L v) Uk) (zY9 hL hvn) (by(simp;omega)) ?_;refine zBa 1 [(7,AG (Ak t<|Af (λ(i:Nat)=>Ae (Lay.ib L i) 0)<|Lay.ix L v) Uk)] ?_;refine zAp 7 (AG (Ak t<|Af (λ(i:Nat)=>Ae (Lay.ib L i) 0)<|Lay.ix L v) Uk) (Ae (Lay.ib L<|AK (Lay.ix L v) t 0) 0) (by simp(disch:=omega) only[hhd]) ?_;refine zAh [45,46,47] [] ?_;refine zB rfl<|zBa 1 [(48,Ae (Lay.ib L<|AK (Lay.ix L v) t 0) 0)] ?_;refine zAi [] [] [Ae (Lay.ib L<|AK (Lay.ix L v) t 0) 0] [Ae (Lay.ib L<|AK (Lay.ix L v) t 0) 0] (Az _) (by exact hop) ?_;refine zAn ?_ (by kernel_rfl);refine zD<|vN<|zB rfl<|zX 2 [] [] (i6 (↑t+1)) [(44,iD ↑(t+1)),(50,iD ↑(t+1))] ?_;refine zAn ?_ (by kernel_rfl);refine zC<|⟨t+1,ht2,by omega,?_⟩;refine vkp [0,1,4,5,42,43,44]
  obtain rfl:t=(L.ix v).length:=by omega
  rw[Bt];have hex:extJ L.ix (m+1) v S={lpJ (extJ L.ix m (v+1)) (L.ix v) v (((zCs (L.ix v) S.its).getD ((L.ix v).getD 0 0) Ad).e) (metJ (L.ix v) (zCs (L.ix v) S.its) S.s).2.2 {S with its:=(metJ (L.ix v) (zCs (L.ix v) S.its) S.s).1,s:=(metJ (L.ix v) (zCs (L.ix v) S.its) S.s).2.1}with its:=zJl (L.ix v) (lpJ (extJ L.ix m (v+1)) (L.ix v) v (((zCs (L.ix v) S.its).getD ((L.ix v).getD 0 0) Ad).e) (metJ (L.ix v) (zCs (L.ix v) S.its) S.s).2.2 {S with its:=(metJ (L.ix v) (zCs (L.ix v) S.its) S.s).1,s:=(metJ (L.ix v) (zCs (L.ix v) S.its) S.s).2.1}).its}:=rfl;rw[hex]at hK⊢;generalize hI1:zCs (L.ix v) S.its=its1 at*;rw[cE]at hs;have hst:∀a,a<L.na->(S.its.getD a Ad).s+(cM L.na M+M*(cE L.na M m+cM L.na M))<=big:=hst;have hM1:Szs L.na M its1:=hM.of λa _=>(o3 a).2.1;have hb1:Bds L.na its1:=λa h=>(hb a h).of (o3 a).2.1 (o3 a).2.2;have hF:=mtF_mono (M:=M) hln;have hFM:mtF (L.ix v).length M*(M+2)<=cM L.na M:=A1 _ hF;have hFc:=mtF_cM L.na M;have hmet:=zE2 (L.ix v) hnd h0 its1 S.s (λa h=>⟨by rw[o1.len];exact hix a h,(o1.inn a (hix a h) ((zAf _ _).1 h).2).lv⟩) (λa h _=>o2 a h);obtain⟨mc1,mc2⟩:=zNa hv hvn o1 hM1 (s:=S.s) (by omega) (λa ha=>by rw[(o3 a).1];have:=hst a ha;omega) (λa h _=>o2 a h);obtain⟨r0,hr0⟩:∃r0,r0=metJ (L.ix v) its1 S.s:=⟨_,rfl⟩;rw[<-hr0]at hmet mc1 mc2 hK⊢;have hme:=meet_a L hL {S with its:=its1} v M hvn o1.len h0 (by omega) (λi hi=>⟨(o1.inn i (hix i hi) ((zAf _ _).1 hi).2).lv,hb1 i (hix i hi),rng_le (o1.inn i (hix i hi) ((zAf _ _).1 hi).2).lv (hM1 i (hix i hi)),by show(its1.getD i Ad).s+_<=big;rw[(o3 i).1];have:=hst i (hix i hi);omega⟩) (by show S.s+_+1<=big;omega) (λi hi _=>o2 i hi);have hfe:(its1.getD ((L.ix v).getD 0 0) Ad).e<=M:=by
   exact Av ((o1.inn _ hi1 hi2).lv.len (o2 _ hi0)).1 (hM1 _ hi1 ((its1.getD ((L.ix v).getD 0 0) Ad).l-1))
  have hmul:=A1 (cE L.na M m+cM L.na M) hfe;simp only at hme;rw[<-hr0]at hme;have hfr:(r0.1.getD ((L.ix v).getD 0 0) Ad).e-(r0.1.getD ((L.ix v).getD 0 0) Ad).p<=(its1.getD ((L.ix v).getD 0 0) Ad).e:=by
   rw[(hmet.adv _ hi0).e];exact Nat.sub_le _ _
  generalize (its1.getD ((L.ix v).getD 0 0) Ad).e=f0 at*;have hrec:∀S:Js,AtV L.na L.vs (v+1) S.its->S.row.length=L.n->ExtP L.n L.na L.vs (v+1) S (extJ L.ix m (v+1) S):=λS h1 h2=>zLa hv m (v+1) S (by omega) h1 h2;have hrc:∀S:Js,AtV L.na L.vs (v+1) S.its->S.row.length=L.n->Szs L.na M S.its->S.s+cE L.na M m+1<=big->(∀a,a<L.na->(S.its.getD a Ad).s+cE L.na M m<=big)->_:=λS h1 h2 h3 h4 h5=>zTz hv M m (v+1) S (by omega) h1 h2 h3 h4 h5;have hrys:=ext_ys L.ix m (v+1);obtain⟨rec,hrecE⟩:∃rec,rec=extJ L.ix m (v+1):=⟨_,rfl⟩;rw[<-hrecE]at hK hrys⊢;have ihR:∀S:Js,AtV L.na L.vs (v+1) S.its->S.row.length=L.n->Bds L.na S.its->Szs L.na M S.its->S.s+cE L.na M m+1<=big->(∀a,a<L.na->(S.its.getD a Ad).s+cE L.na M m<=big)->(rec S).ys.length<=K->Acts Am 79 [.own L.jb 0,iD (v+1:Nat)] (lay L S) L.ch (bD Ab) (lay L (rec S)):=λS h1 h2 h3 h4 h5 h6 h7=>by
   rw[hrecE]at h7⊢;exact ih (v+1) S (by omega) h1 h2 h3 h4 h5 h6 h7
  have hrecs:∀S:Js,AtV L.na L.vs (v+1) S.its->S.row.length=L.n->ExtP L.n L.na L.vs (v+1) S (rec S):=by rw[hrecE];exact hrec
  have hM3:Szs L.na M r0.1:=hM1.of λa ha=>by
   by_cases hma:a∈L.ix v
   ·exact(hmet.adv a hma).t
   rw[hmet.out a hma]
  have hB3:Bds L.na r0.1:=λa ha=>by
   by_cases hma:a∈L.ix v
   ·exact(hb1 a ha).of (hmet.adv a hma).t (by rw[(hmet.adv a hma).fr])
   rw[hmet.out a hma];exact hb1 a ha
  have hLp:=zY7 hv hvn rec hrecs f0 r0.2.2 {S with its:=r0.1,s:=r0.2.1} (zG0 o1 hmet) hr (λhf' d hd=>by
   have:=(hmet.com d).1 λi hi=>(hmet.adv i hi).has (hd i hi)
   rw[hf']at this;exact absurd this.1 Bm) hmet.key hfr
  generalize hG:lpJ rec (L.ix v) v f0 r0.2.2 {S with its:=r0.1,s:=r0.2.1}=G at*;have hK':G.ys.length<=K:=hK;refine vA<|zAh [] [(45,bD<|decide ((Aa (Lay.ix L v):Int)<(Aa (Lay.ix L v):Int)))] ?_;refine zA<|vF ((Aa (Lay.ix L v):Int)<(Aa (Lay.ix L v):Int))<|vZ2<|vA<|zAh [42,43,44,45] [(8,bD Ab)] ?_;refine zA<|vA<|zBa 2 [(51,Ae (Lay.jb L) 0),(52,Ag (Lay.ab L v) 0 (Aa<|Lay.ix L v) (Aa<|Lay.ix L v) Ab)] ?_;refine zAi [] [] [Ae (Lay.jb L) 0,Ag (Lay.ab L v) 0 (Aa<|Lay.ix L v) (Aa<|Lay.ix L v) Ab] [Ae (Lay.jb L) 0,Ag (Lay.ab L v) 0 (Aa<|Lay.ix L v) (Aa<|Lay.ix L v) Ab] (Az _) (by exact hme) ?_;refine zAh [51,52,53] [(9,bD<|Bu<|Bu r0)] ?_;refine zF<|zA0 (λ(b:Bool)(J:Js)(f:Nat)=>fr 93 [(0,Ae (Lay.jb L) 0),(1,iD v),(4,bD Ac),(5,Ag (Lay.ab L v) 0 (Aa<|Lay.ix L v) (Aa<|Lay.ix L v) Ab),(8,bD Ab),(9,bD b)]) (λ(b:Bool)(J:Js)(f:Nat)=>lay L J) (λ(b:Bool)(J:Js)(f:Nat)=>f) (λ(b:Bool)(J:Js)(f:Nat)=>InV L.na L.vs v J.its/\J.row.length=L.n/\Szs L.na M J.its/\Bds L.na J.its/\(b=Ab->∃c,∀i∈L.ix v,(J.its.getD i Ad).p<(J.its.getD i Ad).e/\keyI (J.its.getD i Ad)=c)/\J.s+f*(cE L.na M m+cM L.na M)+1<=big/\(∀a,a<L.na->(J.its.getD a Ad).s+f*(cE L.na M m+cM L.na M)<=big)/\(J.its.getD ((L.ix v).getD 0 0) Ad).e-(J.its.getD ((L.ix v).getD 0 0) Ad).p<=f/\lpJ rec (L.ix v) v f b J=G) r0.2.2 {S with its:=r0.1,s:=r0.2.1} f0 ?_ ?_ ?_
  ·exact⟨zG0 o1 hmet,hr,hM3,hB3,hmet.key,by show r0.2.1+_+1<=big;omega,λa ha=>by
    show(r0.1.getD a Ad).s+_<=big
    have:=mc2 a ha;have:=(o3 a).1;have:=hst a ha;omega,hfr,hG⟩
  ·refine vkp [0,1,4,5,8,9]
  rintro b J f ⟨i1,i2,i3,i4,i5,i6,i7,i8,i9⟩;cases b with
  | true=>
   obtain⟨c,hc⟩:=i5 rfl;have hc0:=hc _ hi0;obtain⟨f,rfl⟩:∃f',f=f'+1:=⟨f-1,by have:=hc0.1;omega⟩;rw[A5]at i6;have i7:∀a,a<L.na->(J.its.getD a Ad).s+(f*(cE L.na M m+cM L.na M)+(cE L.na M m+cM L.na M))<=big:=λa ha=>by have:=i7 a ha;rw[A5]at this;exact this
   have hlv0:=(i1.inn _ hi1 hi2).lv;have hkey:=key_g (zTm (S:=J) hL hi1) hlv0 (i4 _ hi1) hc0.1;have hhd:=hd_ix L (L.ix v) 0 h0;rw[AY]at hhd;have hat2:AtV L.na L.vs (v+1) J.its:=lp_atv hv i1 hc;have hrl:(J.row.set v (keyI (J.its.getD ((L.ix v).getD 0 0) Ad))).length=L.n:=by simpa using i2
   have hset:=zR4 J.row v (keyI (J.its.getD ((L.ix v).getD 0 0) Ad)) (by omega);have hcl:=zB6 J.row;obtain⟨S1,hS1⟩:∃S1,S1=rec {J with row:=J.row.set v (keyI (J.its.getD ((L.ix v).getD 0 0) Ad))}:=⟨_,rfl⟩;have hE:=hrecs {J with row:=J.row.set v (keyI (J.its.getD ((L.ix v).getD 0 0) Ad))} hat2 hrl;have hC:=hrc {J with row:=J.row.set v (keyI (J.its.getD ((L.ix v).getD 0 0) Ad))} hat2 hrl i3 (by show J.s+_+1<=big;omega) (λa ha=>by show(J.its.getD a Ad).s+_<=big;have:=i7 a ha;omega);rw[<-hrecE,<-hS1]at hC;rw[<-hS1]at hE;obtain⟨r1,r2,r3,r4,r5⟩:=hE;obtain⟨k1,k2⟩:=hC;simp only at r2 k1 k2;have hl1:(L.ix v).getD 0 0<S1.its.length:=by rw[r1];exact hi1
   have hstep:=zTi rec (L.ix v) v f J S1 _ hS1 rfl hl1;obtain⟨n1,n2⟩:=lp_nx hv hvn i1 (λi h=>(hc i h).1) r1 r2;have hsz:∀a,a<L.na->((S1.its.set ((L.ix v).getD 0 0) (nxI (S1.its.getD ((L.ix v).getD 0 0) Ad))).getD a Ad).s=(S1.its.getD a Ad).s/\((S1.its.set ((L.ix v).getD 0 0) (nxI (S1.its.getD ((L.ix v).getD 0 0) Ad))).getD a Ad).t=(J.its.getD a Ad).t/\((S1.its.set ((L.ix v).getD 0 0) (nxI (S1.its.getD ((L.ix v).getD 0 0) Ad))).getD a Ad).fr.length=(J.its.getD a Ad).fr.length:=λa ha=>by
    by_cases e:a=(L.ix v).getD 0 0
    ·subst e;rw[zAg hl1];exact⟨rfl,(r2 _ ha).t,(r2 _ ha).fl⟩
    rw[zBj e];exact⟨rfl,(r2 _ ha).t,(r2 _ ha).fl⟩
   have hb1':BdI (S1.its.getD ((L.ix v).getD 0 0) Ad):=(i4 _ hi1).of (r2 _ hi1).t (r2 _ hi1).fl;have hnext:=next_g (zTm (S:=S1) hL hi1) ((r2 _ hi1).lv hlv0) hb1' (by rw[(r2 _ hi1).p,(r2 _ hi1).e];exact hc0.1);rw[zK0 hL hi1 hl1]at hnext;have hon2:onI (nxI (S1.its.getD ((L.ix v).getD 0 0) Ad))=onI ((S1.its.set ((L.ix v).getD 0 0) (nxI (S1.its.getD ((L.ix v).getD 0 0) Ad))).getD ((L.ix v).getD 0 0) Ad):=by rw[zAg hl1]
   rw[hon2]at hnext;have hpe2:((S1.its.set ((L.ix v).getD 0 0) (nxI (S1.its.getD ((L.ix v).getD 0 0) Ad))).getD ((L.ix v).getD 0 0) Ad).e-((S1.its.set ((L.ix v).getD 0 0) (nxI (S1.its.getD ((L.ix v).getD 0 0) Ad))).getD ((L.ix v).getD 0 0) Ad).p<=f:=by
    rw[zAg hl1];show(S1.its.getD _ Ad).e-((S1.its.getD _ Ad).p+1)<=f;rw[(r2 _ hi1).p,(r2 _ hi1).e]
    have:=hc0.1
    omega
   generalize S1.its.set ((L.ix v).getD 0 0) (nxI (S1.its.getD ((L.ix v).getD 0 0) Ad))=its2 at*;have hM2:=i3.of λa ha=>(hsz a ha).2.1;have hB2:Bds L.na its2:=λa ha=>(i4 a ha).of (hsz a ha).2.1 (hsz a ha).2.2;have hmet2:=zE2 (L.ix v) hnd h0 its2 S1.s (λa h=>⟨by rw[n1.len];exact hix a h,(n1.inn a (hix a h) ((zAf _ _).1 h).2).lv⟩) n2;obtain⟨mm1,mm2⟩:=zNa hv hvn n1 hM2 (s:=S1.s) (by omega) (λa ha=>by have:=(hsz a ha).1;have:=k2 a ha;have:=i7 a ha;omega) n2;have hme2:=meet_a L hL {S1 with its:=its2} v M hvn n1.len h0 (by omega) (λi hi=>⟨(n1.inn i (hix i hi) ((zAf _ _).1 hi).2).lv,hB2 i (hix i hi),rng_le (n1.inn i (hix i hi) ((zAf _ _).1 hi).2).lv (hM2 i (hix i hi)),by show(its2.getD i Ad).s+_<=big;have:=(hsz i (hix i hi)).1;have:=k2 i (hix i hi);have:=i7 i (hix i hi);omega⟩) (by show S1.s+_+1<=big;omega) n2;simp only at hme2;have hno2:=metJ_no (L.ix v) its2 S1.s;have hys:=lp_ys rec (L.ix v) v hrys f (metJ (L.ix v) its2 S1.s).2.2 {S1 with its:=(metJ (L.ix v) its2 S1.s).1,s:=(metJ (L.ix v) its2 S1.s).2.1};rw[i9]at hstep;rw[<-hstep]at hys;have hext:=ihR {J with row:=J.row.set v (keyI (J.its.getD ((L.ix v).getD 0 0) Ad))} hat2 hrl i4 i3 (by show J.s+_+1<=big;omega) (λa ha=>by show(J.its.getD a Ad).s+_<=big;have:=i7 a ha;omega) (by rw[<-hS1];exact Av hys hK');rw[<-hS1]at hext;have hfr2:((metJ (L.ix v) its2 S1.s).1.getD ((L.ix v).getD 0 0) Ad).e-((metJ (L.ix v) its2 S1.s).1.getD ((L.ix v).getD 0 0) Ad).p<=f:=by
    have a1:=(hmet2.adv _ hi0).e;have a2:=(hmet2.adv _ hi0).p;omega
   generalize metJ (L.ix v) its2 S1.s=r at*;generalize keyI (J.its.getD ((L.ix v).getD 0 0) Ad)=key at*;have hinv:InV L.na L.vs v r.1/\S1.row.length=L.n/\Szs L.na M r.1/\Bds L.na r.1/\(r.2.2=Ab->∃c,∀i∈L.ix v,(r.1.getD i Ad).p<(r.1.getD i Ad).e/\keyI (r.1.getD i Ad)=c)/\r.2.1+f*(cE L.na M m+cM L.na M)+1<=big/\(∀a,a<L.na->(r.1.getD a Ad).s+f*(cE L.na M m+cM L.na M)<=big)/\(r.1.getD ((L.ix v).getD 0 0) Ad).e-(r.1.getD ((L.ix v).getD 0 0) Ad).p<=f/\lpJ rec (L.ix v) v f r.2.2 {S1 with its:=r.1,s:=r.2.1}=G:=by
    refine⟨zG0 n1 hmet2,r3,?_,?_,hmet2.key,by omega,λa ha=>by have:=(hsz a ha).1;have:=k2 a ha;have:=i7 a ha;have:=mm2 a ha;omega,hfr2,hstep.symm⟩
    ·exact hM2.of λa ha=>by
      by_cases hma:a∈L.ix v
      ·exact(hmet2.adv a hma).t
      rw[hmet2.out a hma]
    intro a ha;by_cases hma:a∈L.ix v
    ·exact(hB2 a ha).of (hmet2.adv a hma).t (by rw[(hmet2.adv a hma).fr])
    rw[hmet2.out a hma];exact hB2 a ha
   refine zA<|vA<|zAh [] [(54,bD Ab)] ?_;refine vt<|vKB<|zA<|zDc [0,1,2,4,5,6,3,7] [(8,[(3,100000)],[9,10,11,12,13])] rfl ?_;refine zX 6 [] [] (True/\(0:Int)<=(0:Int)/\(0:Int)<(Aa (Lay.ix L v):Int)) [(65,Ae (Lay.jb L) 0),(66,Ae (Lay.jb L) 0),(67,Ae (Lay.jb L) 0),(69,iD v),(70,Ag (Lay.ab L v) 0 (Aa<|Lay.ix L v) (Aa<|Lay.ix L v) Ab),(71,Ae (Lay.ab L v) 0)] ?_ (hc:=⟨trivial,(by omega)⟩);refine zAs (Ai [Ag (Lay.rb L) 0 (Lay.n L) (Lay.n L*3) Ab,Ag (Lay.tb L) 0 (Lay.n L) (Lay.n L) Ab,iD ↑(Js.s J),AB (Fn.func 41) [] [Ae (Lay.cb L) 0]] 181 0 Ac Ac Aj) (Lay.jb L) (Ay 1 4) (Ag (Lay.rb L) 0 (Lay.n L) (Lay.n L*3) Ab) (zQy (S:=J) hL) (by simp) ?_;refine zAs (Ai (Af (λ(i:Nat)=>Ae (Lay.ib L i) 0)<|Lay.ix L v) 188 1 Ab Ac AM) (Lay.ab L v) (Ay 1<|Aa<|Ak 0<|Af (λ(i:Nat)=>Ae (Lay.ib L i) 0)<|Lay.ix L v) (AG (Ak 0<|Af (λ(i:Nat)=>Ae (Lay.ib L i) 0)<|Lay.ix L v) Uk) (zY9 (S:=J) hL hvn) (by(simp;omega)) ?_;refine zAn ?_ (by kernel_rfl);refine zFt rfl rfl (zFp<|λx hx=>by rw[zBd];simp at hx;subst hx;exact hL.sm) ?_;refine zAi [] [] [AG (Ak 0<|Af (λ(i:Nat)=>Ae (Lay.ib L i) 0)<|Lay.ix L v) Uk] [Ae (Lay.ib L<|AK (Lay.ix L v) 0 0) 0] (BF (by simp(disch:=omega) only[AY,hhd])) (by exact hkey) ?_;refine zAn ?_ (by kernel_rfl);refine zFg (Au _) (zE5 3 100000 (jB L J.s) L.jb (0<4) (.osl L.rb 0 L.n (L.n*3) Ab) (by kernel_rfl) (by rw[zFe (by rw[zBd];exact hL.sm)];exact zQy hL) (by decide) (by kernel_rfl)) ?_;refine zX 4 [] [] (0<2/\1<2/\(0:Int)<=(v:Int)/\(v:Int)<↑(Lay.n L)) [(64,D.tup [An [iD<|Aq key,iD<|Ar key,Al<|Ap<|bs<|As key],bD Ab]),(74,An [iD<|Aq key,iD<|Ar key,Al<|Ap<|bs<|As key]),(75,bD Ab),(76,Ae (Lay.rb L) (0+Ao (v:Int)*3))] ?_;refine zAp 76 (Ae (Lay.rb L) (0+Ao (v:Int)*3)) (Ae (Lay.rb L) (v*3)) (by simp(disch:=omega) only[AS,AT]) ?_;refine st_puta (Ai (zM<|Js.row J) 107 3 Ab Ac Aj) (Lay.rb L) (Ac=Ac/\Ab=Ab/\3=3/\v*3+3<=Aa (zM<|Js.row J)) (Ai (setAt (zM<|Js.row J) (v*3) [iD<|Aq key,iD<|Ar key,Al<|Ap<|bs<|As key]) 107 3 Ab Ac Aj) (by kernel_rfl) (lay_r (S:=J) hL) ⟨(by kernel_rfl),⟨(by kernel_rfl),(by omega)⟩⟩ ?_;rw[hset,lay_set_r hL];refine zAn ?_ (by kernel_rfl);refine zFh<|zC<|zPl (9::54::AJ 64 13) ([Ae L.jb 0,iD (v:Nat),Uk,Uk,bD Ac,.osl (L.ab v) 0 (L.ix v).length (L.ix v).length Ab,Uk,Uk,bD Ab]++AF 84 Uk) (by kernel_rfl) ?_;focus
    refine vA<|zX 3 [] [] (YtmfamhoopjeaiaaGreatDoor.i6 (↑v+1)) [(77,Ae (Lay.jb L) 0),(78,iD v),(79,iD ↑(v+1))] ?_;refine zSo [] [] [Ae (Lay.jb L) 0,iD ↑(v+1)] [Ae (Lay.jb L) 0,iD ↑(v+1)] (¬Lay.jb L∈Lay.ch L/\¬Lay.ab L v∈Lay.ch L/\¬Lay.jb L∈Lay.ch L/\True) (by kernel_rfl) trivial (Az _) (by exact hext) (by kernel_rfl) ?_ ?_ ?_;rotate_left;rotate_left;refine zAh [2,3,6,7,10,12,13,14,15,16,17,18,19,20,21,22,23,24,25,26,27,28,29,30,31,32,33,34,35,36,37,38,39,40,41,42,43,44,45,46,47,48,49,50,51,52,53,54,64,65,66,67,68,69,70,71,72,73,74,75,76,77,78,79,80,90] [(8,bD Ab)] ?_;refine vA<|zAh [81] [(82,bD Ac)] ?_;refine vf<|zL<|zD<|vN<|zB rfl<|zX 2 [] [] ((0:Int)<=(0:Int)/\(0:Int)<(Aa (Lay.ix L v):Int)) [(55,Ag (Lay.ab L v) 0 (Aa<|Lay.ix L v) (Aa<|Lay.ix L v) Ab),(56,Ae (Lay.ab L v) 0)] ?_;rotate_left
   ·exact Tj_ch
   ·obtain⟨c1,c2,c3,c4,c5⟩:=hL.cht;exact⟨c1,c4 v hvn,c1,trivial⟩
   cases hb2:onI (its2.getD ((L.ix v).getD 0 0) Ad)with
   |true=>
    rw[hb2]at hnext;refine zAs (Ai (Af (λ(i:Nat)=>Ae (Lay.ib L i) 0)<|Lay.ix L v) 188 1 Ab Ac AM) (Lay.ab L v) (Ay 1<|Aa<|Ak 0<|Af (λ(i:Nat)=>Ae (Lay.ib L i) 0)<|Lay.ix L v) (AG (Ak 0<|Af (λ(i:Nat)=>Ae (Lay.ib L i) 0)<|Lay.ix L v) Uk) (zY9 (S:=S1) hL hvn) (by(simp;omega)) ?_;refine zAi [] [] [AG (Ak 0<|Af (λ(i:Nat)=>Ae (Lay.ib L i) 0)<|Lay.ix L v) Uk] [Ae (Lay.ib L<|AK (Lay.ix L v) 0 0) 0] (BF (by simp(disch:=omega) only[AY,hhd])) (by exact hnext) ?_;refine zBa 3 [(59,bD Ab),(60,Ae (Lay.jb L) 0),(61,Ag (Lay.ab L v) 0 (Aa<|Lay.ix L v) (Aa<|Lay.ix L v) Ab)] ?_;refine zAi [] [] [Ae (Lay.jb L) 0,Ag (Lay.ab L v) 0 (Aa<|Lay.ix L v) (Aa<|Lay.ix L v) Ab] [Ae (Lay.jb L) 0,Ag (Lay.ab L v) 0 (Aa<|Lay.ix L v) (Aa<|Lay.ix L v) Ab] (Az _) (by exact hme2) ?_;refine zBa 2 [(9,bD<|Bu<|Bu r),(63,bD<|Bu<|Bu r)] ?_;refine zAn ?_ (by kernel_rfl);refine zC<|⟨r.2.2,{S1 with its:=r.1,s:=r.2.1},f,hinv,by omega,?_⟩;refine vkp [0,1,4,5,8,9]
   |false=>
    have hrE:=hno2 hb2;subst hrE;rw[hb2]at hnext;refine zAs (Ai (Af (λ(i:Nat)=>Ae (Lay.ib L i) 0)<|Lay.ix L v) 188 1 Ab Ac AM) (Lay.ab L v) (Ay 1<|Aa<|Ak 0<|Af (λ(i:Nat)=>Ae (Lay.ib L i) 0)<|Lay.ix L v) (AG (Ak 0<|Af (λ(i:Nat)=>Ae (Lay.ib L i) 0)<|Lay.ix L v) Uk) (zY9 (S:=S1) hL hvn) (by(simp;omega)) ?_;refine zAi [] [] [AG (Ak 0<|Af (λ(i:Nat)=>Ae (Lay.ib L i) 0)<|Lay.ix L v) Uk] [Ae (Lay.ib L<|AK (Lay.ix L v) 0 0) 0] (BF (by simp(disch:=omega) only[AY,hhd])) (by exact hnext) ?_;refine zBa 6 [(9,bD Ac),(59,bD Ac),(60,Al undef),(61,Al undef),(62,Al undef),(63,bD Ac)] ?_;refine zAn ?_ (by kernel_rfl);refine zC<|⟨Ac,{S1 with its:=its2},f,hinv,by omega,?_⟩;refine vkp [0,1,4,5,8,9]
  | false=>
   rw[zKv]at i9;subst i9;have hup:∀i∈L.ix v,1<=(J.its.getD i Ad).l/\(J.its.getD i Ad).l<=32/\0<=((J.its.getD i Ad).fr.getD ((J.its.getD i Ad).l-1) (0,0)).1/\0<=((J.its.getD i Ad).fr.getD ((J.its.getD i Ad).l-1) (0,0)).2:=λi hi=>by
    obtain⟨q1,q2⟩:=(zAf L.na L.vs).1 hi;obtain⟨p1,p2,p3,p4⟩:=hLp.adv i q1 q2;have a5:=hmet.adv i hi;have hoi:=zPg (ha.one i q1) (zMt hv q1 q2);have hge:its1.getD i Ad=opI (S.its.getD i Ad):=by
     rw[<-hI1];exact(zPh (vs:=L.vs) v ha.len i).trans (if_pos hi)
    rw[<-hge]at hoi;obtain⟨b1,b2,b3,b4,b5⟩:=hoi;simp only at p1 p2 p3 p4;have hll:(J.its.getD i Ad).l=cnt L.vs i v+1:=by rw[p2,a5.l,b1.ll]
    have hfr3:(J.its.getD i Ad).fr.getD (cnt L.vs i v) (0,0)=((((S.its.getD i Ad).p:Nat):Int),(((S.its.getD i Ad).e:Nat):Int)):=by
     rw[p4 (cnt L.vs i v) (by rw[a5.l,b1.ll];exact Nat.lt_succ_self _),a5.fr,b5,AN,BQ (by
      have:=(ha.one i q1).fl
      have:=(ha.one i q1).d32
      have:=zMt hv q1 q2
      omega)]
     rfl
    have:=(ha.one i q1).d32
    have:=zMt hv q1 q2
    rw[hll,A8,hfr3];omega
   have hlJ:∀i∈L.ix v,i<J.its.length:=λi hi=>by rw[i1.len];exact hix i hi
   refine zA<|vA<|zAh [] [(54,bD Ac)] ?_;refine vf<|vZ2<|zA<|vA<|zAh [0,1,5,9,54] [(83,Ag (Lay.ab L v) 0 (Aa<|Lay.ix L v) (Aa<|Lay.ix L v) Ab),(84,iD (Aa (Lay.ix L v):Int)),(85,iD 0)] ?_;refine zF<|zN (λ(t:Nat)=>fr 93 [(4,bD Ac),(8,bD Ab),(83,Ag (Lay.ab L v) 0 (Aa<|Lay.ix L v) (Aa<|Lay.ix L v) Ab),(84,iD (Aa (Lay.ix L v):Int)),(85,iD t)]) (λ(t:Nat)=>lay L {J with its:=zJl ((L.ix v).take t) J.its}) (λ(t:Nat)=>(L.ix v).length-t) (λ(t:Nat)=>t<=(L.ix v).length) 0 ?_ ?_ ?_
   ·omega
   ·refine vkp [4,8,83,84,85]
   intro t ht;rcases Ax t (L.ix v).length with ht2|ht2
   ·have hhd:=hd_ix L (L.ix v) t ht2;have hmm:=zA8 ht2;have hat:=upAll_at (L.ix v) hnd J.its hlJ t ht2;have hsu:=upAll_succ (L.ix v) J.its t ht2;obtain⟨q1,q2⟩:=(zAf L.na L.vs).1 hmm;obtain⟨u1,u2,u3⟩:=hup _ hmm;have hop:=up_g (k:=L.ib ((L.ix v).getD t 0)) (it:=(zJl ((L.ix v).take t) J.its).getD ((L.ix v).getD t 0) Ad) (zTm (S:={J with its:=zJl ((L.ix v).take t) J.its}) hL q1) (by rw[hat];exact i4 _ q1) (by rw[hat];exact u1) (by rw[hat];exact u2) (by rw[hat];exact u3);rw[zK0 hL q1 (by rw[show(zJl ((L.ix v).take t) J.its).length=J.its.length from zMc upI _ _,i1.len];exact q1),<-hsu]at hop;refine vA<|zAh [] [(86,bD<|decide ((t:Int)<(Aa (Lay.ix L v):Int)))] ?_;refine zA<|vT ((t:Int)<(Aa (Lay.ix L v):Int))<|vKB<|vA<|zX 1 [] [] ((0:Int)<=(t:Int)/\(t:Int)<(Aa (Lay.ix L v):Int)) [(87,Ae (Lay.ab L v) (0+Ao (t:Int)*1))] ?_;refine zAp 87 (Ae (Lay.ab L v) (0+Ao (t:Int)*1)) (Ae (Lay.ab L v) t) (by simp(disch:=omega) only[AS,AZ,AT]) ?_;refine zAs (Ai (Af (λ(i:Nat)=>Ae (Lay.ib L i) 0)<|Lay.ix L v) 188 1 Ab Ac AM) (Lay.ab L v) (Ay 1<|Aa<|Ak t<|Af (λ(i:Nat)=>Ae (Lay.ib L i) 0)<|Lay.ix L v) (AG (Ak t<|Af (λ(i:Nat)=>Ae (Lay.ib L i) 0)<|Lay.ix L v) Uk) (zY9 hL hvn) (by(simp;omega)) ?_;refine zBa 1 [(11,AG (Ak t<|Af (λ(i:Nat)=>Ae (Lay.ib L i) 0)<|Lay.ix L v) Uk)] ?_;refine zAp 11 (AG (Ak t<|Af (λ(i:Nat)=>Ae (Lay.ib L i) 0)<|Lay.ix L v) Uk) (Ae (Lay.ib L<|AK (Lay.ix L v) t 0) 0) (by simp(disch:=omega) only[hhd]) ?_;refine zAh [86,87,88] [] ?_;refine zB rfl<|zBa 1 [(89,Ae (Lay.ib L<|AK (Lay.ix L v) t 0) 0)] ?_;refine zAi [] [] [Ae (Lay.ib L<|AK (Lay.ix L v) t 0) 0] [Ae (Lay.ib L<|AK (Lay.ix L v) t 0) 0] (Az _) (by exact hop) ?_;refine zAn ?_ (by kernel_rfl);refine zD<|vN<|zB rfl<|zX 2 [] [] (YtmfamhoopjeaiaaGreatDoor.i6 (↑t+1)) [(85,iD ↑(t+1)),(91,iD ↑(t+1))] ?_;refine zAn ?_ (by kernel_rfl);refine zC<|⟨t+1,ht2,by omega,?_⟩;refine vkp [4,8,83,84,85]
   obtain rfl:t=(L.ix v).length:=by omega
   rw[Bt];refine vA<|zAh [] [(86,bD<|decide ((Aa (Lay.ix L v):Int)<(Aa (Lay.ix L v):Int)))] ?_;refine zA<|vF ((Aa (Lay.ix L v):Int)<(Aa (Lay.ix L v):Int))<|vZ2<|vA<|zAh [8,83,84,85,86,92] [(4,bD Ab)] ?_;refine zG<|zT (True) [Al<|A3 Ab] (.inr rfl) ?_;exact⟨by kernel_rfl,rfl⟩
end
section
open Go.RowKit
theorem Acts.new0{x:D}{news:List Bk}(h:Acts P f args [] [] x news)(hargs:∀I w β vs,RelT I w β args vs->RelT I w noB args vs)(hn:∀b∈news,b.free):Acts P f args st [] (zBc st.length x) (st++news):=by
 intro β I w vs hr hsr hinj hfz hdom hi hg;refine(h noB I w vs (hargs I w β vs hr) (λk b c hk=>by cases hk) (λj j' b c c' h1=>by cases h1) (λk b c i e h1=>by cases h1) (λk y hk=>by cases hk) hi hg).mono ?_;rintro en w' ⟨v,β1,I',rfl,p1,p2,p3,p4,p5,p6,p7,p8⟩;have hlt:∀{j b c:Nat},β j=Ah (b,c)->b<w.heap.size:=λ{j b c} hj=>by
  obtain⟨e0,_,h1⟩:=hsr j b c hj;exact h1.lt
 have hge:∀{j b c:Nat},β1 j=Ah (b,c)->w.heap.size<=b:=λ{j b c} hj=>by
  rcases p2.be j b c hj with⟨k,c',hk⟩|hk
  ·cases hk
  exact hk
 have hheap:∀b,b<w.heap.size->w'.heap[b]?=w.heap[b]?:=λb hb=>p2.out b hb λk c hk=>by cases hk
 have hle:BeLe β (λj=>if j<st.length then β j else β1 (j-st.length)):=λj y hj=>by
  grind
 have him:∀{b o:Nat},I' b o->b<w.heap.size->I b o:=λ{b o} hb hlt=>by
  rcases p2.im b o hb with h1|h1|⟨k,c,h1⟩
  ·exact h1
  ·omega
  cases h1
 refine⟨v,λj=>if j<st.length then β j else β1 (j-st.length),I',rfl,p1,⟨p2.fix,p2.size,λb hb _=>hheap b hb,p2.os,p2.tape,p2.output,p2.dr,λj b c hj=>?_,λb o hb=>?_⟩,λj y _ hj=>hle j y hj,λj b c hj=>?_,λj j' b c c' hj hj'=>?_,λj b c i e0 hj h2 h3=>?_,λj y hj=>?_,?_⟩
 ·grind
 ·grind
 ·try simp only at hj
  split at hj
  ·rename_i hjl;obtain⟨e0,h1,h2⟩:=hsr j b c hj;exact⟨e0,by rw[Ce hjl];exact h1,h2.mono (hheap b (hlt hj)) p2.fix hle⟩
  rename_i hjl;obtain⟨e0,h1,h2⟩:=p4 _ b c hj;exact⟨e0,by rw[BM (by omega)];exact h1,(hn e0 (List.mem_of_getElem? h1)).own h2⟩
 ·try simp only at hj hj'
  split at hj<;>split at hj'
  ·exact hinj j j' b c c' hj hj'
  ·grind
  ·grind
  have:=p5 _ _ b c c' hj hj';omega
 ·try simp only at hj
  split at hj
  ·rename_i hjl;rw[Ce hjl]at h2;exact hfz j b c i e0 hj h2 (him h3 (hlt hj))
  rename_i hjl;rw[BM (by omega)]at h2;exact p6 _ b c i e0 hj h2 h3
 all_goals grind [only,AE,zEw]
section
variable{T:Par}{sl:List D}{st:List Bk}
theorem Weak.leC{ej:Bk}{d d':D}(hj:st[j]?=Ah ej)(hm:ej.kd.isMap=Ac)(hi:ej.cells[i]?=Ah d)(hd:LeD d d'):Weak T sl st sl (st.set j {ej with cells:=ej.cells.set i d'}):=by
 intro β I w tm h;have hjl:j<st.length:=(List.getElem?_eq_some_iff.1 hj).1;have hget:∀k,(st.set j {ej with cells:=ej.cells.set i d'})[k]?=if k=j then Ah {ej with cells:=ej.cells.set i d'}else st[k]?:=λk=>by
  grind
 refine⟨β,I,⟨h.rel,λk b' c hk=>?_,h.inj,λk b' c o e hk he hi'=>?_,λk y hk=>?_,h.imb,h.gl⟩,Stp.refl _ _ _,Kp.refl _ _⟩
 ·obtain⟨e,k1,k2⟩:=h.sr k b' c hk;rw[hget k];by_cases hkj:k=j
  ·subst hkj;rw[hj]at k1;cases k1;refine⟨_,if_pos rfl,?_⟩;obtain⟨cur,c1,c2,c3,c4⟩:=k2.c hm;refine OwnC.r ⟨cur,c1,by simpa using c2,?_,c4⟩ hm;have hn2:({ej with cells:=ej.cells.set i d'}:Bk).nob=ej.nob:=rfl;rw[hn2];simp only[AO];refine c3.putAt λd0 v hd0 hv hr=>?_;rw[hi]at hd0;cases hd0;exact hd _ _ _ _ hr
  grind
 ·rw[hget k]at he;by_cases hkj:k=j
  ·subst hkj;rw[if_pos rfl]at he;cases he
   have:=h.fz k b' c o ej hk hj hi'
   grind
  rw[if_neg hkj]at he;exact h.fz k b' c o e hk he hi'
 rw[AO];exact h.dom k y hk
theorem LeL.setD:∀{sl:List D}{i:Nat}{d d':D},sl[i]?=Ah d->LeD d d'->LeL sl (sl.set i d')
 |[],i,d,d',h,_=>by simp at h
 |e::sl,0,d,d',h,hd=>by
  simp only[List.getElem?_cons_zero,BH.injEq]at h;subst h;exact .cons hd (Az sl)
 |e::sl,i+1,d,d',h,hd=> .cons (LeD.refl e) (LeL.setD (by simpa using h) hd)
theorem Weak.leS{d d':D}(hs:sl[s]?=Ah d)(hd:LeD d d'):Weak T sl st (sl.set s d') st:=BS (LeL.setD hs hd)
theorem LeD.osr_row(k off n m:Nat)(wh:Bool)(cs:List D):LeD (.osr k off n m wh cs) (.row cs n):=λI w β v h=>by
 simp only[Rel]at h⊢;exact h.2
end
end
variable{us:List Value}
section
open Go.RowKit Go.Shelf Go.Lib
theorem zWg{v:Value}(h:∀I w,Gl I w->Calls P f us.toArray w λe w'=>e= .returned v/\w=w'):Pure P f (us.map .val) [] (.val v):=by
 intro I w vs hr hi hg;rw[zFl us vs hr];refine(h I w hg).mono ?_;rintro e w' ⟨rfl,rfl⟩;exact⟨v,I,noB,rfl,Ext.refl _,hi,Fix.refl _ _,λ_ _ h=> .inl h,λ_ _ _ h=>(by cases h),λ_ _ _ h=>(by cases h),λ_ _ _ _ _ h=>(by cases h),λ_ _ _ _ _ h=>(by cases h),λ_ _ h=>(by cases h),by simp only[Rel],by simp⟩
section
variable{P:Program}{I:Im}{w:World}{β:Be}{st:List Bk}
theorem zRb:∀(ys xs pre zs:List D),xs.length=ys.length->setAt (pre++xs++zs) pre.length ys=pre++ys++zs
 |[],xs,pre,zs,hl=>by
  obtain rfl:xs=[]:=Bo (by simpa using hl);rfl
 |y::ys,[],pre,zs,hl=>by simp at hl
 |y::ys,x::xs,pre,zs,hl=>by
  simp only[setAt];have e1:(pre++x::xs++zs).set pre.length y=(pre++[y])++xs++zs:=by simp
  rw[e1]
  have:=zRb ys xs (pre++[y]) zs (by simpa using hl)
  grind
theorem acts_fill{vs:List Value}{zM1:List D}{more:List Value}(hmore:∀I w β vs,RelT I w β zM1 vs->vs=more)(he:st[k]?=Ah e)(hkd:e.kd.isMap=Ac)(hf:e.fz=Ac)(hc:e.cells.take n=us.map .val)(hn:n<=e.cells.length)(hu:us.length=n)(hv:vs.length=n)(h1:∀v∈vs,v.oneCell'=Ab)(hpos:0<n)
  (h:∀b c w,(∀j,j<n->w.cell? ⟨b,0+j,AA⟩=Ah (us.getD j undef))->(∀j,j<n->w.frozen? ⟨b,0+j,AA⟩=Ac)->n<=c->Calls P f (#[.slice (Ah ⟨b,0,AA⟩) n c]++more.toArray) w λx w'=>x= .returned (.tuple #[])/\∃q,w'=(w.drewN q).setCells b 0 vs):
  Acts P f (.osl k 0 n n wh::zM1) st [] (.val (.tuple #[])) (st.set k {e with cells:=vs.map .val++e.cells.drop n}):=by
 intro β I w xs hr hsr hinj hfz hdom hi hg;simp only[RelT]at hr;obtain⟨v,ys,rfl,hr,hys⟩:=hr;obtain rfl:=hmore _ _ _ _ hys;simp only[Rel]at hr;rcases hr with⟨e0,_,rfl⟩|⟨e0,_,_,a,c,rfl,_⟩|⟨b,c,cap,hb,rfl,k1,k2,k3⟩
 ·omega
 ·omega
 have hs0:Sim β I w ([]:List D) st ({tmps:=#[],defers:=[]}:Act).tmps.toList:=⟨by simp only[RelT],hsr,hinj,hfz,hdom,hi,hg⟩;obtain⟨e',he',hown⟩:=hsr k b c hb;rw[he]at he';cases he';obtain⟨cur,c1,c2,c3,c4⟩:=hown.c hkd;have hul:(cur.take n)=us:=by
  have hx:RelL I w (if e.nob then noB else β) (e.cells.take n) (cur.take n):=by
   refine RelL.of_get (by simp;omega) λi d v hd hv=>?_;rw[Cg]at hd hv;split at hd
   ·rename_i hi;rw[if_pos hi]at hv;obtain⟨v',k1,k2,k3⟩:=c3.get i d hd;grind
   cases hd
  rw[hc]at hx;exact zKl hx
 have hpre:=(hs0.put (off:=0) (cs:=e.cells) (vs:=cur.take e.cells.length) (ks:=[]) hb he hf hkd (by simp) (RelL.mono (zAv _) _ _ (A_ _) _ _ c3) (by simp) AA undef).2.2;have hlc:(cur.take e.cells.length).length=e.cells.length:=c3.length.symm;have e1:(#[B3 (Ah ⟨b,0,AA⟩) n cap]++ys.toArray)=(B3 (Ah ⟨b,0,AA⟩) n cap::ys).toArray:=by apply Array.ext';simp
 rw[<-e1];refine(h b cap w (λj hj=>?_) (λj hj=>(hpre j (by omega)).2) k1).mono ?_
 ·have hlt:j<cur.length:=by omega
  rw[<-hul,AN,Cg,if_pos hj,AL hlt];simp[BY,c1,hlt]
 rintro x w' ⟨rfl,q,rfl⟩;obtain⟨s1,s2,s3⟩:=(hs0.drew q).put (off:=0) (cs:=vs.map .val) (vs:=vs) (ks:=[]) hb he hf hkd (by simp) (zD0 h1) (by simp;omega) AA undef;have hset2:setAt e.cells 0 (vs.map .val)=vs.map .val++e.cells.drop n:=by
  have:=zRb (vs.map .val) (e.cells.take n) [] (e.cells.drop n) (by simp;omega)
  grind [Ch]
 rw[hset2]at s1;exact⟨_,β,_,rfl,s1.imb,(Stp.drew β I w q).trans s2,λ_ _ _ h=>h,s1.sr,s1.inj,s1.fz,s1.dom,by simp only[Rel]⟩
end
theorem small_c(n:Nat)(h:n<100):Pure Am 199 [.val (.int .i64 n)] [] (.val (.string ⟨(BK n).toArray⟩)):=
 zC6 (us:=[.int .i64 n]) λw=>(Tryz.internal_strconv_small n h w).mono λe w' h=>⟨h.1,h.2.symm⟩
theorem zY2(u:Nat)(h1:1<=u)(h2:u<18446744073709551616):Pure Am 200 [.val (.int .u64 u)] [] (.val (.int .i64 (Lib.nDigits u))):=by
 refine zWg (us:=[.int .u64 u]) λI w hG=>?_;obtain⟨hnd,h19⟩:=Lib.numDigits_eq u h1 h2;have hL:A7 u<=64:=Lib.bitLen_le u 64 (Au _) h2;have hcell:w.cell? ⟨1,Lib.l10 (A7 u),AA⟩=Ah (.int .u64 ((10^Lib.l10 (A7 u):Nat):Int)):=by
  refine(hG (1,Lib.pow10Tab.map λz=>AQ .u64 z) (by simp[globT]) (Lib.l10 (A7 u)) _ ?_).2;rw[BG,<-Lib.pow10Tab_at _ (by omega)];rw[AN,AL (by rw[Lib.pow10Tab_length];omega)];rfl
 have hto:((u:Int)).toNat=u:=by omega
 generalize hq:Lib.l10 (A7 u)=q at hnd h19 hcell;generalize hT:10^q=T at hnd hcell;have Hnd:=Lib.hid hnd;clear hnd;clear hG;go_enter Tryz.func200,Tryz.ntmps200;go_wp2_with fail;refine(Tryz.bits_Len64 (u:Int) w (by omega) (by omega)).mono ?_;rintro e w' ⟨rfl,rfl⟩;rw[hto];go_wp2_with fail;refine(Tryz.internal_strconv_log10Pow2 _ hL _).mono ?_;rintro e w' ⟨rfl,rfl⟩;rw[hq];go_wp2_with fail;all_goals (
  refine(Tryz.internal_strconv_bool2_int _ _).mono ?_;rintro e w' ⟨rfl,rfl⟩)
 all_goals go_wp2_with fail
 all_goals go_ret
 all_goals (
  refine⟨?_,rfl⟩;have hnd:=Hnd.out;congr 2;split at hnd<;>simp_all<;>omega)
open Go.Sort in
theorem zZj{u:Nat}(hn:n=Lib.nDigits u)(he:st[k]?=Ah e)(hkd:e.kd.isMap=Ac)(hf:e.fz=Ac)(hc:e.cells.take n=AF n (.val (.int .u8 0)))(hl:n<=e.cells.length)(hu:u<18446744073709551616):
  Acts Am 201 [.osl k 0 n n wh, .val (.int .u64 u)] st [] (.val (.tuple #[])) (st.set k {e with cells:=(Lib.byteCells (BK u)).map .val++e.cells.drop n}):=by
 have hpos:0<n:=by rw[hn];unfold Lib.nDigits;split<;>omega
 have hdl:(BK u).length=n:=by rw[Lib.decDigits_length,hn]
 refine acts_fill (us:=AF n (.int .u8 0)) (more:=[.int .u64 u]) (λI w β vs h=>?_) he hkd hf (by rw[hc,List.map_replicate]) hl (by simp) (by rw[Lib.byteCells_length,hdl]) (λv hv=>?_) hpos (λb c w h1 h2 h3=>?_)
 ·exact zFl [.int .u64 u] vs h
 ·obtain⟨x,_,rfl⟩:=Bn.1 hv;rfl
 have hH:Holds (λ(b:UInt8)=>AQ .u8 (b.toNat:Int)) w b 0 (Ck n (0:UInt8)):=λj hj=>by
  simp_all
 have main:=Tryz.internal_strconv_formatBase10 b 0 c u (Ck n (0:UInt8)) w hH (by
  rw[Cl,hn];exact Lib.lt_pow_nDigits u) hu (by
  rw[Cl,hn]
  have:=Lib.nDigits_le20 u hu;omega)
 rw[Cl]at main;refine main.mono ?_;rintro x w' ⟨rfl,q,v',dk,rfl,hfm⟩;refine⟨rfl,q,?_⟩;have hsz:=hfm.size;have hdk:dk.toList=BK u:=by
  apply B5
  ·grind
  intro j a b';subst hn;rw[Lib.row_is_numeral hfm j b',Array.getElem_toList,getElem!_pos dk j (by simpa using a)]
 have:=Lib.putRow_eq_setCells (λ(b:UInt8)=>AQ .u8 (b.toNat:Int)) w b 0 (Ck n (0:UInt8)) dk.toList q hH (by simp[hsz])
 rw[hdk]at this;rw[show(BK u).toArray=dk by rw[<-hdk]]at this;exact this
end
end Go.Proofs.YtmfamhoopjeaiaaGreatDoor
