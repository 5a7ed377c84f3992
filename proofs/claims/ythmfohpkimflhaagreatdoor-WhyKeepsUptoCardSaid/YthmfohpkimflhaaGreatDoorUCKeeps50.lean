/- The statement WhyKeeps, its second form, is proved: for every input of bulk at most 1048576 the law returns true. No further conditions. -/
import Derived.Test.YthmfohpkimflhaaGreatDoorU05
import Derived.Test.YthmfohpkimflhaaGreatDoorRows
import Derived.Test.YthmfohpkimflhaaGreatDoorCards
import Derived.Test.YthmfohpkimflhaaGreatDoorTie
import Derived.Test.YthmfohpkimflhaaGreatDoorChecked
import Derived.Lib.LaidTab
import Derived.SevenTiedAt
import Derived.Lay
import Derived.MakeChecks
import Derived.Deep.DeepHandedRow

namespace Go.Proofs.YthmfohpkimflhaaGreatDoor
open _root_.Go.Proofs.Tryz renaming prog->Aa
open Lib renaming pow10Tab->Ab
open _root_.Option renaming some->Ac
open _root_.List renaming getElem?_eq_getElem->Ad
open Go.ChangeShapes Go.WideShapes Go.ChangeAt Go.RowKit
set_option linter.unusedVariables false
set_option linter.unusedSimpArgs false
theorem zQd{P:Program}{ps:Array TypeId}(h:(ps.toList.all λt=>!P.wantsStandIn t)=true){j:Nat}{t:TypeId}(ht:ps[j]?=some t):P.wantsStandIn t=false:=by
  have h1:=List.all_eq_true.1 h t (by rw[<-Array.getElem?_toList]at ht;exact List.mem_of_getElem? ht);simpa using h1
theorem zP7{xs:List D}(h:ArgsB Aa 1048576 [27,29,5] xs):Pure Aa 7 xs [] (.val (.bool true)):=by
  obtain⟨d,ds,rfl,h1,h⟩:=h.more;obtain⟨e,es,rfl,h2,h⟩:=h.more;obtain⟨g,rfl,h3⟩:=h.one;obtain⟨c,rfl,hs,ht⟩:=arg_case (by decide) h1;obtain⟨r,rfl,hr,hv⟩:=arg_row (by decide) h2;obtain⟨n3,h3⟩:=h3.cell (by kernel_rfl);obtain⟨z,ez,hz⟩:=zH8 Tryz.underlying5 h3;simp only[List.cons.injEq,and_true]at ez;subst ez;simp only[inK]at hz
  have:=keeps_all c hs ht r (by omega) (λv hv2=>(hv v hv2).2.2) z.toNat (by omega)
  rwa[u8I,Int.toNat_of_nonneg hz.1]at this
theorem zQb:Rows.laid_internal_strconv_uint64pow10 (H:=Unit)=Lib.tabData .u64 Ab:=by kernel_rfl
/-- the table of powers, off the row's condition -/
theorem zSn{W:World}(h:laidMetH Aa Rows.whyKeepsUptoRow.laid W):Gl (allI W) W:=by
  rw[MakeChecks.laidMetH_plain _ _ _ (by kernel_rfl)]at h;obtain⟨ps,⟨_,_,_,_,_,_,_,_,_,_,⟨_,_,_,_,_,_,_,_,_,_,⟨g,t,cs,fuel,p,q,hg,ht,hvar,hd,_,_⟩,_⟩,_⟩,_⟩:=h;have hg0:Aa.globalNamed "internal/strconv.uint64pow10" =some 1:=by kernel_rfl
  obtain rfl:=Ac.inj (hg0.symm.trans hg);obtain rfl:249=t:=Ac.inj ((show(Aa.globals[1]?).map (·.type)=some 249 by kernel_rfl).symm.trans ht);rw[show Rows.laid_internal_strconv_uint64pow10 (H:=Unit)=Lib.tabData .u64 Ab from zQb]at hd;have htab:Lib.TabIs Aa W "internal/strconv.uint64pow10" .u64 Ab:=by
    unfold Lib.TabIs;rw[hvar,<-Lib.cells_of_tab Tryz.underlying249 Tryz.underlying188 (by kernel_rfl) (by kernel_rfl) hd]
  intro x hx j v hj;simp only[globT,List.mem_singleton]at hx;subst hx;have hlt:j<Ab.length:=by
    have:=(List.getElem?_eq_some_iff.1 hj).1
    simpa using this
  have hc:=htab.cell hg0 j hlt;have hv:v= .int .u64 (Ab.getD j 0):=by
    rw[List.getElem?_map,Ad hlt]at hj;rw[List.getD_eq_getElem?_getD,Ad hlt];exact(Ac.inj hj).symm
  exact⟨World.block_lt_of_cell? W _ hc,by rw[hv];exact hc⟩
section
variable {H : Type}
theorem bulk_one(d:DataW H):1<=Rows.uptoBulk d:=by
  cases d with
  |lit l=>cases l<;>simp[Rows.uptoBulk]
  |_=>simp[Rows.uptoBulk]
theorem zHy:∀{l:List (DataW H)}{d:DataW H},d∈l->Rows.uptoBulk d<=Rows.uptoBulkAll l
  | x::r,d,h=>by
    simp only[Rows.uptoBulkAll];rcases List.mem_cons.1 h with rfl|h
    ·omega
    have:=zHy h;omega
theorem zXm:∀l:List (DataW H),l.length<=Rows.uptoBulkAll l
  |[]=>Nat.zero_le _
  |x::r=>by have:=bulk_one x;have:=zXm r;simp only[Rows.uptoBulkAll,List.length_cons];omega
theorem zXn:∀l r:List (DataW H),Rows.uptoBulkAll l<=Rows.uptoBulkAll (l++r)
  |[],r=>by simp[Rows.uptoBulkAll]
  |x::l,r=>by have:=zXn l r;simp only[List.cons_append,Rows.uptoBulkAll];omega
end
set_option maxRecDepth 100000 in
theorem zSl{H:Type}(enc:TypeId×Value->H)(W:World)(base:Nat)(args:Array Value)(ds gs:List (DataW H))(before:List MemPlace)(hL:laidMetH Aa Rows.whyKeepsUptoRow.laid W)
    (hval:∀(j:Nat) t v,Tryz.f7.params[j]?=some t->args[j]?=some v->Value.okWide Aa W .any base t v)
    (hW:DataW.Whole enc Aa Tryz.f7.params.toList Rows.whyKeepsSpec.vars false W args.toList ds gs before)(hk:Rows.uptoSmall H (ds++gs)=true):
    Calls Aa 7 args W λe W'=>∃v,e= .returned v/\Rows.whyKeepsSpec.post enc Aa Tryz.f7 false true false false W args v W':=by
  have hb:Rows.uptoBulkAll (ds++gs)<=1048576:=of_decide_eq_true hk;have hb2:=zXn ds gs;exact law_callB (B:=1048576) (Q:=λd=>Rows.uptoBulk d<=1048576)
    (λe s h=>by
      simp only[Rows.uptoBulk]at h;exact⟨λ_=>by have:=zXm e;omega,λx hx=>by have:=zHy hx;omega⟩)
    (λp h x hx=>by
      simp only[Rows.uptoBulk]at h
      have:=zHy hx;omega)
    (λl h _=>by
      simp only[Rows.uptoBulk]at h;omega)
    (bt:=4) 12 (by kernel_rfl) rfl (by kernel_rfl) Tryz.underlying4 (by kernel_rfl) (λds h=>by rw[Tryz.params7]at h;match ds,h with|[_,_,_],_=>rfl) (by kernel_rfl) hval hW (zSn hL) (λd hd=>by have:=zHy hd;omega) λxs h=>by
      rw[Tryz.params7]at h;exact zP7 h
set_option maxRecDepth 100000 in
theorem zMk(os:Os)(started:os.Started)(H:Type)(enc:TypeId×Value->H)(F:Stop.Interp):
    ReturnsInHanded {} Tryz.checked os 7 .any ((Rows.OpenSpec.upto Rows.whyKeepsSpec).preRow enc Aa Tryz.f7 Rows.whyKeepsUptoRow.domain false Rows.whyKeepsUptoRow.laid) (((Rows.OpenSpec.upto Rows.whyKeepsSpec).at F).post enc Aa Tryz.f7 false true false false):=by
  refine returnsInHanded_of_row (C:=Tryz.checked) (s:=Rows.OpenSpec.upto Rows.whyKeepsSpec) (show ownKnob Aa.godebug=none by kernel_rfl) started (by kernel_rfl) Tryz.func7
    (witness_row_at (enc:=enc) (C:=Tryz.checked) false (World.laidAll Aa os Rows.whyKeepsUptoRow.laid) #[.agg #[.int .i64 0, .int .i64 0, .slice none 0 0, .slice none 0 0, .slice none 0 0, .slice none 0 0], .slice none 0 0, .int .u8 0] (World.laidAll_os _ _ _) (by kernel_rfl) (by kernel_rfl) (by kernel_rfl)
      (OpenSpec.preRow_of_cond 8 (x:=([.agg [.lit (.int .i64 0), .lit (.int .i64 0), .nil, .nil, .nil, .nil], .nil, .lit (.int .u8 0)],[],[])) (by kernel_rfl) (by kernel_rfl) (λk hk=>by cases hk;kernel_rfl) (by kernel_rfl)
        (by rw[MakeChecks.laidMetH_plain _ _ _ (by kernel_rfl)];exact laidMet_laidAll _ (by kernel_rfl) (by kernel_rfl)))) ?_
  intro W base args ds gs before hval hW _ hcond _ hL _ _;exact zSl enc W base args ds gs before hL hval hW (hcond _ rfl)
theorem WhyKeeps_holds:Rows.WhyKeepsUptoSaid:=
  OpenClaim.holds_of_cond 7 Tryz.f7 rfl rfl rfl rfl rfl rfl rfl ⟨rfl,rfl,rfl,rfl,rfl⟩ rfl rfl rfl rfl rfl (by kernel_rfl) Tryz.func7 (by kernel_rfl)
    (of_decide_eq_true (by kernel_rfl)) (by unfold Func.isWrapper;first|(rw[if_pos (by decide+kernel)];kernel_rfl)|(rw[if_neg (by decide+kernel)];exact⟨rfl,rfl⟩))
    (λos started H enc _ F=>by rw[OpenClaim.pre_eq_preRow];exact zMk os started H enc F)
/-- the tied card -/
theorem WhyKeepsUpto_card:Rows.WhyKeepsUptoCardSaid:=
  Claim7.holds_tied_plain_at .later [] _ _ _ _
    WhyKeeps_holds (λ_ h=>by cases h) (by kernel_rfl) (λ_ h=>by cases h) whyKeepsUpto_row_tie rfl ⟨rfl,rfl⟩ (by kernel_rfl) rfl
    (λf fn hf hfn=>by
      obtain rfl:f=7:=Ac.inj ((show Aa.funcNamed "ordinal/ordinallaw50.WhyKeeps" =some 7 by kernel_rfl).symm.trans hf)|>.symm;obtain rfl:fn=Tryz.f7:=(Ac.inj (Tryz.func7.symm.trans hfn)).symm;exact⟨by kernel_rfl,λj t ht=>zQd (P:=Aa) (ps:=Tryz.f7.params) (by kernel_rfl) ht⟩)
    (by kernel_rfl)
end Go.Proofs.YthmfohpkimflhaaGreatDoor
