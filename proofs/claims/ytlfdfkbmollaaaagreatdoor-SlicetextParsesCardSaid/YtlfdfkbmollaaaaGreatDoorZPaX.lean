/- PROVED HERE: 'SlicetextParses' returns true for every trace and every text, in every memory that holds the library's variables as the program lays them. -/
import Derived.Test.YtlfdfkbmollaaaaGreatDoorT81
import Derived.Test.YtlfdfkbmollaaaaGreatDoorT91
import Derived.Test.YtlfdfkbmollaaaaGreatDoorT18
namespace Go.Proofs.YtlfdfkbmollaaaaGreatDoor.slicetextParses
open Go.ChangeShapes Go.WideShapes Go.ChangeAt Go.RowKit Go.Proofs.YtlfdfkbmollaaaaGreatDoor
set_option linter.unusedVariables false
set_option maxRecDepth 100000 in
theorem contract (H : Type) (enc : TypeId × Value → H) (W : World) (base : Nat) (args : Array Value) (ds gs : List (DataW H)) (before : List MemPlace)
    (hval0:∀ (j:Nat) t v,Tryz.f3.params[j]?=some t→args[j]?=some v→Value.okWide Tryz.prog W .any base t v)
    (hW:DataW.Whole enc Tryz.prog Tryz.f3.params.toList Rows.slicetextParsesSpec.vars false W args.toList ds gs before)
    (hsz0:(DataW.weightsEach Tryz.prog (Tryz.f3.params.toList++(OpenSpec.ofChange Rows.slicetextParsesSpec).bare.plain.varTypes Tryz.prog) (ds++gs)).all (·≤reachBytes)=true) (hL:laidMetH Tryz.prog Rows.slicetextParsesRow.laid W) (hsh:W.ShapedOpen Tryz.prog) :
    Calls Tryz.prog 3 args W fun e W'=>∃ v,e=.returned v∧Rows.slicetextParsesSpec.post enc Tryz.prog Tryz.f3 false true false false W args v W':=by
 have hsz1:=hsz0
 have hval:=hval0
 clear hsz0
 have hW':=hW
 obtain ⟨p,q,hA0,hV,rfl,hfz,hnd⟩:=hW
 have hA:DataW.TrodAll enc Tryz.prog W 0 (fun _=>true) true Tryz.f3.params.toList args.toList ds p:=hA0
 rw [Tryz.params3] at hA hval hsz1
 obtain ⟨v0,vs0,d0,ds0,p0,q0,hargs,rfl,rfl,h0,r0⟩:=trodAll_cons hA
 obtain ⟨v1,vs1,d1,ds1,p1,q1,rfl,rfl,rfl,h1,r1⟩:=trodAll_cons r0
 obtain ⟨rfl,rfl,rfl⟩:=trodAll_nil r1
 obtain rfl:args=#[v0,v1]:=by cases args;simp_all
 obtain ⟨rfl,rfl⟩:=trodVars_none hV
 obtain ⟨T0,rfl,hX0⟩:=arg_trace (hval 0 24 v0 rfl rfl) h0 (small_of hsz1 (j:=0) rfl rfl)
 obtain ⟨s1,rfl,rfl,rfl,w1⟩:=Go.ChangeMaps.open_string Tryz.underlying9 (hval 1 9 v1 rfl rfl) h1
 clear hA0 hval0 hsz1
 simp only [List.append_nil] at hW'
 have hl0:∀ x∈p0,x.block<W.heap.size:=fun x hx=>hW'.lt x (by simp [hx])
 refine (walk T0 s1 W hX0 w1 (lib_of hL hsh)).mono fun e W' ⟨he,hg⟩=>?_
 subst he
 exact ⟨_,rfl,post_ext1 (pa:=(p0++([]++[]))) (pv:=[]) hW' (fun _ _ _=>(trodAll_cons_mk (shut_bool Tryz.underlying4 _) trodAll_mk0)) (trodAll_cons_mk (Below.trod laid14 (by kernel_rfl) (of_decide_eq_true (by kernel_rfl)) h0 hg.below hl0) (trodAll_cons_mk (Go.ChangeMaps.shut_string Tryz.underlying9 w1) trodAll_mk0)) rfl hg⟩
abbrev arg0:Value:=.agg #[.slice none 0 0]
abbrev arg1:Value:=.string ⟨#[]⟩
set_option maxRecDepth 100000 in
theorem laid_met (os:Os):laidMet Tryz.prog Rows.slicetextParsesRow.laid ((laidWorld os).forCall (fun _ _=>0) ⟨#[],#[arg0,arg1],[]⟩).memory:=
 laidMet_of_run' 8 (by kernel_rfl) (by kernel_rfl)
set_option maxRecDepth 100000 in
theorem reads (os:Os) {H:Type} (enc:TypeId × Value→H):∃ d places,DataW.whole enc Tryz.prog ((laidWorld os).forCall (fun _ _=>0) ⟨#[],#[arg0,arg1],[]⟩).memory Tryz.f3.params.toList Rows.slicetextParsesSpec.vars false #[arg0,arg1].toList 8=some (d,[],places):=
 ⟨[.agg [.nil],.lit (.string [])],[],by kernel_rfl⟩
set_option maxRecDepth 100000 in
theorem lifted (os : Os) (started : os.Started) (H : Type) (enc : TypeId × Value → H) (F : Stop.Interp) :
    ReturnsInHanded {} Tryz.checked os 3 .any ((OpenSpec.ofChange Rows.slicetextParsesSpec).preRow enc Tryz.prog Tryz.f3 Rows.slicetextParsesRow.domain false Rows.slicetextParsesRow.laid) (((OpenSpec.ofChange Rows.slicetextParsesSpec).at F).post enc Tryz.prog Tryz.f3 false true false false):=by
 obtain ⟨d,places,hx⟩:=reads os enc
 refine returnsInHanded_of_row (C:=Tryz.checked) (s:=OpenSpec.ofChange Rows.slicetextParsesSpec) own14 started (by kernel_rfl) Tryz.func3
  (witness_row_at (enc:=enc) (C:=Tryz.checked) false (laidWorld os) #[arg0,arg1] rfl (by kernel_rfl) (by kernel_rfl) (by kernel_rfl)
   (OpenSpec.preRow_of_cond 8 hx (by kernel_rfl) (fun k hk=>by cases hk) (by kernel_rfl) (laid_met os))) ?_
 intro W base args ds gs before hval hW _ _ hsz hL hsh _
 exact contract H enc W base args ds gs before hval hW hsz hL hsh
theorem jf1:(Rows.slicetextParsesRow.inPlace == Tryz.pinned.checked.prog.inPlace 3)=true:=by kernel_rfl
theorem jf2:(Rows.slicetextParsesRow.unfollowed == Tryz.pinned.checked.prog.unfollowed 3)=true:=by kernel_rfl
theorem jf3:(Rows.slicetextParsesRow.recurses == Tryz.pinned.checked.prog.recurses 3)=true:=by kernel_rfl
theorem jf4:(Rows.slicetextParsesRow.named == Tryz.pinned.checked.prog.varsNamed 3)=true:=by kernel_rfl
theorem closed:joinedFacts Tryz.pinned.checked.prog 3 Tryz.f3 (OpenSpec.ofChange Rows.slicetextParsesSpec).bare Rows.slicetextParsesRow=true:=by
 unfold joinedFacts
 rw [jf1,jf2,jf3,jf4]
 kernel_rfl
theorem over:Rows.SlicetextParsesSaid:=
 OpenClaim.holds_of_cond 3 Tryz.f3 rfl rfl rfl rfl rfl rfl rfl ⟨rfl,rfl,rfl,rfl,rfl⟩ rfl rfl rfl rfl rfl (by kernel_rfl) Tryz.func3 closed
  (of_decide_eq_true (by kernel_rfl)) (by unfold Func.isWrapper;first | (rw [if_pos (by decide +kernel)];kernel_rfl) | (rw [if_neg (by decide +kernel)];exact ⟨rfl,rfl⟩))
  (fun os started H enc _ F=>by rw [OpenClaim.pre_eq_preRow];exact lifted os started H enc F)
theorem plain (f : FuncId) (fn : Func) (hf : Tryz.pinned.checked.prog.funcNamed "antecede/antecedelaw36.SlicetextParses" = some f) (hfn : Tryz.pinned.checked.prog.funcs[f]? = some fn) :
    true=Tryz.pinned.checked.prog.looks []∧∀ (j:Nat) t,fn.params[j]?=some t→Tryz.pinned.checked.prog.wantsStandIn t=false:=by
 obtain rfl : f = 3 := Option.some.inj ((show Tryz.prog.funcNamed "antecede/antecedelaw36.SlicetextParses" = some 3 by kernel_rfl).symm.trans hf) |>.symm
 obtain rfl:fn=Tryz.f3:=(Option.some.inj (Tryz.func3.symm.trans hfn)).symm
 refine ⟨by kernel_rfl,fun j t ht=>?_⟩
 rw [Tryz.params3] at ht
 have hm:t=24∨t=9:=by simpa using Array.mem_of_getElem? ht
 rcases hm with rfl | rfl
 ·exact (show Tryz.prog.wantsStandIn 24=false by kernel_rfl)
 ·exact (show Tryz.prog.wantsStandIn 9=false by kernel_rfl)
theorem proved:Rows.SlicetextParsesCardSaid:=
 Claim7.holds_tied_plain_at .later [] _ _ _ _ over (fun _ h=>by cases h) (by kernel_rfl) (fun _ h=>by cases h) slicetextParses_row_tie rfl ⟨rfl,rfl⟩ (by kernel_rfl) rfl plain (by kernel_rfl)
#print axioms proved
end Go.Proofs.YtlfdfkbmollaaaaGreatDoor.slicetextParses
