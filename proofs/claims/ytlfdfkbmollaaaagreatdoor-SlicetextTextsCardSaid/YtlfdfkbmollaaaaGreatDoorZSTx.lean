/- PROVED HERE: 'SlicetextTexts' returns true for every trace and every slice, in every memory that holds the library's variables as the program lays them. -/
import Derived.Test.YtlfdfkbmollaaaaGreatDoorT81
import Derived.Test.YtlfdfkbmollaaaaGreatDoorT85
import Derived.Test.YtlfdfkbmollaaaaGreatDoorT18
namespace Go.Proofs.YtlfdfkbmollaaaaGreatDoor.slicetextTexts
open Go.ChangeShapes Go.WideShapes Go.ChangeAt Go.RowKit Go.Proofs.YtlfdfkbmollaaaaGreatDoor
set_option linter.unusedVariables false
set_option maxRecDepth 100000 in
theorem contract (H : Type) (enc : TypeId × Value → H) (W : World) (base : Nat) (args : Array Value) (ds gs : List (DataW H)) (before : List MemPlace)
    (hval0:∀ (j:Nat) t v,Tryz.f5.params[j]?=some t→args[j]?=some v→Value.okWide Tryz.prog W .any base t v)
    (hW:DataW.Whole enc Tryz.prog Tryz.f5.params.toList Rows.slicetextTextsSpec.vars false W args.toList ds gs before)
    (hsz0:(DataW.weightsEach Tryz.prog (Tryz.f5.params.toList++(OpenSpec.ofChange Rows.slicetextTextsSpec).bare.plain.varTypes Tryz.prog) (ds++gs)).all (·≤reachBytes)=true) (hL:laidMetH Tryz.prog Rows.slicetextTextsRow.laid W) (hsh:W.ShapedOpen Tryz.prog) :
    Calls Tryz.prog 5 args W fun e W'=>∃ v,e=.returned v∧Rows.slicetextTextsSpec.post enc Tryz.prog Tryz.f5 false true false false W args v W':=by
 have hsz1:=hsz0
 have hval:=hval0
 clear hsz0
 have hW':=hW
 obtain ⟨p,q,hA0,hV,rfl,hfz,hnd⟩:=hW
 have hA:DataW.TrodAll enc Tryz.prog W 0 (fun _=>true) true Tryz.f5.params.toList args.toList ds p:=hA0
 rw [Tryz.params5] at hA hval hsz1
 obtain ⟨v0,vs0,d0,ds0,p0,q0,hargs,rfl,rfl,h0,r0⟩:=trodAll_cons hA
 obtain ⟨v1,vs1,d1,ds1,p1,q1,rfl,rfl,rfl,h1,r1⟩:=trodAll_cons r0
 obtain ⟨rfl,rfl,rfl⟩:=trodAll_nil r1
 obtain rfl:args=#[v0,v1]:=by cases args;simp_all
 obtain ⟨rfl,rfl⟩:=trodVars_none hV
 obtain ⟨T0,rfl,hX0⟩:=arg_trace (hval 0 24 v0 rfl rfl) h0 (small_of hsz1 (j:=0) rfl rfl)
 obtain ⟨S1,rfl,hX1⟩:=arg_slc (hval 1 30 v1 rfl rfl) h1 (small_of hsz1 (j:=1) rfl rfl)
 clear hA0 hval0 hsz1
 simp only [List.append_nil] at hW'
 have hl1:∀ x∈p1,x.block<W.heap.size:=fun x hx=>hW'.lt x (by simp [hx])
 have hl0:∀ x∈p0,x.block<W.heap.size:=fun x hx=>hW'.lt x (by simp [hx])
 refine (walk T0 S1 W hX0 hX1 (lib_of hL hsh)).mono fun e W' ⟨he,hg⟩=>?_
 subst he
 exact ⟨_,rfl,post_ext1 (pa:=(p0++(p1++[]))) (pv:=[]) hW' (fun _ _ _=>(trodAll_cons_mk (shut_bool Tryz.underlying4 _) trodAll_mk0)) (trodAll_cons_mk (Below.trod laid14 (by kernel_rfl) (of_decide_eq_true (by kernel_rfl)) h0 hg.below hl0) (trodAll_cons_mk (Below.trod laid14 (by kernel_rfl) (of_decide_eq_true (by kernel_rfl)) h1 hg.below hl1) trodAll_mk0)) rfl hg⟩
abbrev arg0:Value:=.agg #[.slice none 0 0]
abbrev arg1:Value:=.agg #[.bool false,.slice none 0 0,.slice none 0 0,.slice none 0 0]
set_option maxRecDepth 100000 in
theorem laid_met (os:Os):laidMet Tryz.prog Rows.slicetextTextsRow.laid ((laidWorld os).forCall (fun _ _=>0) ⟨#[],#[arg0,arg1],[]⟩).memory:=
 laidMet_of_run' 8 (by kernel_rfl) (by kernel_rfl)
set_option maxRecDepth 100000 in
theorem reads (os:Os) {H:Type} (enc:TypeId × Value→H):∃ d places,DataW.whole enc Tryz.prog ((laidWorld os).forCall (fun _ _=>0) ⟨#[],#[arg0,arg1],[]⟩).memory Tryz.f5.params.toList Rows.slicetextTextsSpec.vars false #[arg0,arg1].toList 8=some (d,[],places):=
 ⟨[.agg [.nil],.agg [.lit (.bool false),.nil,.nil,.nil]],[],by kernel_rfl⟩
set_option maxRecDepth 100000 in
theorem lifted (os : Os) (started : os.Started) (H : Type) (enc : TypeId × Value → H) (F : Stop.Interp) :
    ReturnsInHanded {} Tryz.checked os 5 .any ((OpenSpec.ofChange Rows.slicetextTextsSpec).preRow enc Tryz.prog Tryz.f5 Rows.slicetextTextsRow.domain false Rows.slicetextTextsRow.laid) (((OpenSpec.ofChange Rows.slicetextTextsSpec).at F).post enc Tryz.prog Tryz.f5 false true false false):=by
 obtain ⟨d,places,hx⟩:=reads os enc
 refine returnsInHanded_of_row (C:=Tryz.checked) (s:=OpenSpec.ofChange Rows.slicetextTextsSpec) own14 started (by kernel_rfl) Tryz.func5
  (witness_row_at (enc:=enc) (C:=Tryz.checked) false (laidWorld os) #[arg0,arg1] rfl (by kernel_rfl) (by kernel_rfl) (by kernel_rfl)
   (OpenSpec.preRow_of_cond 8 hx (by kernel_rfl) (fun k hk=>by cases hk) (by kernel_rfl) (laid_met os))) ?_
 intro W base args ds gs before hval hW _ _ hsz hL hsh _
 exact contract H enc W base args ds gs before hval hW hsz hL hsh
theorem jf1:(Rows.slicetextTextsRow.inPlace == Tryz.pinned.checked.prog.inPlace 5)=true:=by kernel_rfl
theorem jf2:(Rows.slicetextTextsRow.unfollowed == Tryz.pinned.checked.prog.unfollowed 5)=true:=by kernel_rfl
theorem jf3:(Rows.slicetextTextsRow.recurses == Tryz.pinned.checked.prog.recurses 5)=true:=by kernel_rfl
theorem jf4:(Rows.slicetextTextsRow.named == Tryz.pinned.checked.prog.varsNamed 5)=true:=by kernel_rfl
theorem closed:joinedFacts Tryz.pinned.checked.prog 5 Tryz.f5 (OpenSpec.ofChange Rows.slicetextTextsSpec).bare Rows.slicetextTextsRow=true:=by
 unfold joinedFacts
 rw [jf1,jf2,jf3,jf4]
 kernel_rfl
theorem over:Rows.SlicetextTextsSaid:=
 OpenClaim.holds_of_cond 5 Tryz.f5 rfl rfl rfl rfl rfl rfl rfl ⟨rfl,rfl,rfl,rfl,rfl⟩ rfl rfl rfl rfl rfl (by kernel_rfl) Tryz.func5 closed
  (of_decide_eq_true (by kernel_rfl)) (by unfold Func.isWrapper;first | (rw [if_pos (by decide +kernel)];kernel_rfl) | (rw [if_neg (by decide +kernel)];exact ⟨rfl,rfl⟩))
  (fun os started H enc _ F=>by rw [OpenClaim.pre_eq_preRow];exact lifted os started H enc F)
theorem plain (f : FuncId) (fn : Func) (hf : Tryz.pinned.checked.prog.funcNamed "antecede/antecedelaw36.SlicetextTexts" = some f) (hfn : Tryz.pinned.checked.prog.funcs[f]? = some fn) :
    true=Tryz.pinned.checked.prog.looks []∧∀ (j:Nat) t,fn.params[j]?=some t→Tryz.pinned.checked.prog.wantsStandIn t=false:=by
 obtain rfl : f = 5 := Option.some.inj ((show Tryz.prog.funcNamed "antecede/antecedelaw36.SlicetextTexts" = some 5 by kernel_rfl).symm.trans hf) |>.symm
 obtain rfl:fn=Tryz.f5:=(Option.some.inj (Tryz.func5.symm.trans hfn)).symm
 refine ⟨by kernel_rfl,fun j t ht=>?_⟩
 rw [Tryz.params5] at ht
 have hm:t=24∨t=30:=by simpa using Array.mem_of_getElem? ht
 rcases hm with rfl | rfl
 ·exact (show Tryz.prog.wantsStandIn 24=false by kernel_rfl)
 ·exact (show Tryz.prog.wantsStandIn 30=false by kernel_rfl)
theorem proved:Rows.SlicetextTextsCardSaid:=
 Claim7.holds_tied_plain_at .later [] _ _ _ _ over (fun _ h=>by cases h) (by kernel_rfl) (fun _ h=>by cases h) slicetextTexts_row_tie rfl ⟨rfl,rfl⟩ (by kernel_rfl) rfl plain (by kernel_rfl)
#print axioms proved
end Go.Proofs.YtlfdfkbmollaaaaGreatDoor.slicetextTexts
