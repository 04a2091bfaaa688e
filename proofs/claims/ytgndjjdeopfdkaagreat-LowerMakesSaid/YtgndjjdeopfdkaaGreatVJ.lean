import Derived.Test.YtgndjjdeopfdkaaGreatKLowerMakes14
/- texts VJ of the proof of LowerMakesSaid -/
set_option maxHeartbeats 16000000
set_option maxRecDepth 20000
set_option linter.unusedVariables false
set_option linter.unusedSimpArgs false
namespace Go.Proofs.YtgndjjdeopfdkaaGreat
open Go.SX Go.ChangeShapes Go.WideShapes Go.ChangeAt Go.RowKit
theorem MZ(w:World):kF Tryz.prog w 26 λcs=>∃o:Aw,cs=[.int .i64 o.aR,.bool o.tidy,.bool o.lazy,.bool o.giant,.int .i64 o.rows]:=by
 have c_i:Tryz.prog.cellsOf 3=1:=by kernel_rfl
 have c_b:Tryz.prog.cellsOf 4=1:=by kernel_rfl
 have h:=y5 (P:=Tryz.prog) (w:=w) (k:=5) (Q:=λf cs=>(f.type=3->∃i,(Lit.int .i64 i).wf=true/\cs=[.int .i64 i])/\(f.type=4->∃b,cs=[.bool b])) Tryz.underlying26 ji (by
  intro f hf
  simp only[List.mem_toArray,List.mem_cons,List.not_mem_nil,or_false]at hf
  rcases hf with rfl|rfl|rfl|rfl|rfl
  all_goals first|exact kF.mono (xQ Tryz.underlying3) λcs hc=>⟨λ_=>hc,λh=>kP⟩|exact kF.mono (XJ Tryz.underlying4) λcs hc=>⟨λh=>kP,λ_=>hc⟩)
 refine kF.mono h ?_
 rintro cs ⟨hl,hf⟩
 obtain⟨a,b,c,d,e,rfl⟩:∃a b c d e,cs=[a,b,c,d,e]:=by
  match cs,hl with
  |[a,b,c,d,e],_=>exact⟨a,b,c,d,e,rfl⟩
 simp only[List.mem_toArray,List.mem_cons,List.not_mem_nil,or_false,forall_eq_or_imp,forall_eq,c_i,c_b,List.drop_zero,List.drop_succ_cons,List.take_succ_cons,List.take_zero,forall_const,true_and,and_true,reduceCtorEq,Nat.reduceEqDiff,false_implies]at hf
 obtain⟨⟨x1,w1,e1⟩,⟨x2,e2⟩,⟨x3,e3⟩,⟨x4,e4⟩,⟨x5,w5,e5⟩⟩:=hf
 simp only[List.cons.injEq,and_true]at e1 e2 e3 e4 e5
 subst e1 e2 e3 e4 e5
 exact⟨⟨x1,x2,x3,x4,x5⟩,rfl⟩
theorem MB(os:Os)(started:os.Started)(H:Type)(enc:TypeId×Value->H):
 ReturnsInHanded {} Tryz.checked os 3 .any (Rows.lowerMakesSpec.pre6 enc Tryz.prog Tryz.f3 Rows.lowerMakesRow.domain false) (Rows.lowerMakesSpec.post enc Tryz.prog Tryz.f3 false true false false):=by
 refine returnsInHanded_of_change (C:=Tryz.checked) an4 started ji Tryz.func3
  (ChangeSpec.witness6 (enc:=enc) (C:=Tryz.checked) false ⟨#[],#[.agg #[.slice none 0 0,.int .i64 0],.agg #[.int .i64 0,.bool false,.bool false,.bool false,.int .i64 0],.int .i64 0],[]⟩ 8 ji ji ji ji) ?_
 intro W base args ds gs before hval0 hW hcnd _
 have hval:∀(j:Nat) t v,Tryz.f3.params[j]? =some t->args[j]? =some v->Value.okWide Tryz.prog W .any base t v:=hval0
 have hW':=hW
 obtain⟨p,q,hA0,hV,rfl,hfz,hnd⟩:=hW
 have hA:DataW.TrodAll enc Tryz.prog W 0 (λ_=>true) true Tryz.f3.params.toList args.toList ds p:=hA0
 rw[Tryz.params3]at hA hval
 obtain⟨v0,v1,v2,d0,d1,d2,p0,p1,p2,rfl,rfl,h0,h1,h2⟩:=Jr hA
 obtain⟨g,hv0,hg⟩:=E8 (Vj W) h0
 obtain⟨o,hv1⟩:=E8 (MZ W) h1
 obtain⟨x2,w2,hv2⟩:=E8 (xQ Tryz.underlying3) h2
 obtain rfl:v0=g.val:=Ni Tryz.underlying24 (hval 0 24 v0 rfl rfl) hv0
 obtain rfl:v1=o.val:=Ni Tryz.underlying26 (hval 1 26 v1 rfl rfl) hv1
 obtain rfl:v2= .int .i64 x2:=abC Tryz.underlying3 (hval 2 3 v2 rfl rfl) hv2
 exact Rj aco ji rfl rfl Tryz.underlying4 rfl hW' (Eu W g hg o x2 (wf_i64' w2))
theorem lowerMakes_holds:Rows.LowerMakesSaid:=
 OpenClaim.holds_of_wide 3 Tryz.f3 rfl rfl rfl rfl rfl rfl rfl ⟨rfl,rfl,rfl,rfl,rfl⟩ rfl rfl rfl rfl rfl ji Tryz.func3 ji
  (of_decide_eq_true ji) (by unfold Func.isWrapper;first|(rw[if_pos (by decide+kernel)];kernel_rfl)|(rw[if_neg (by decide+kernel)];exact⟨rfl,rfl⟩))
  (λos started H enc _=>MB os started H enc)
end Go.Proofs.YtgndjjdeopfdkaaGreat
