import Derived.Test.YtgndjjdeopfdkaaGreatKLowerMeans13
/- texts YK of the proof of LowerMeansSaid -/
set_option maxHeartbeats 16000000
set_option maxRecDepth 20000
set_option linter.unusedVariables false
set_option linter.unusedSimpArgs false
namespace Go.Proofs.YtgndjjdeopfdkaaGreat
open Go.SX Go.ChangeShapes Go.WideShapes Go.ChangeAt Go.RowKit
theorem aqw(w:World)(t d:gF)(ht:t.raw w)(hd:d.raw w)(a b:Int)(ha:0<=a/\a<=255)(hb:0<=b/\b<=255):Calls Tryz.prog 5 #[t.val,d.val,.int .u8 a,.int .u8 b] w λe w'=>e= .returned (.bool true)/\Ext w w':=by
 obtain⟨m,rfl⟩:∃m:Nat,a=m:=⟨a.toNat,by omega⟩;obtain⟨n,rfl⟩:∃n:Nat,b=n:=⟨b.toNat,by omega⟩;exact ap5 w t d ht hd m n aa aa
theorem apT(os:Os)(started:os.Started)(H:Type)(enc:TypeId×Value->H):
 ReturnsInHanded {} Tryz.checked os 5 .any (Rows.lowerMeansSpec.pre6 enc Tryz.prog Tryz.f5 Rows.lowerMeansRow.domain false) (Rows.lowerMeansSpec.post enc Tryz.prog Tryz.f5 false true false false):=by
 refine returnsInHanded_of_change (C:=Tryz.checked) an2 started bg Tryz.func5
  (ChangeSpec.witness6 (enc:=enc) (C:=Tryz.checked) false ⟨#[],#[.slice none 0 0,.slice none 0 0,.int .u8 0,.int .u8 0],[]⟩ 8 bg bg bg bg) ?_
 intro W base args ds gs before hval0 hW hcnd _;have hval:∀(j:Nat) t v,Tryz.f5.params[j]? =some t->args[j]? =some v->Value.okWide Tryz.prog W .any base t v:=hval0;have hW':=hW;obtain⟨p,q,hA0,hV,rfl,hfz,hnd⟩:=hW;have hA:DataW.TrodAll enc Tryz.prog W 0 (λ_=>true) true Tryz.f5.params.toList args.toList ds p:=hA0;rw[Tryz.params5]at hA hval;obtain⟨v0,v1,v2,v3,d0,d1,d2,d3,p0,p1,p2,p3,rfl,rfl,h0,h1,h2,h3⟩:=Qw hA;obtain⟨t,hv0,ht⟩:=Df (KI W) h0;obtain⟨u,hv1,hu⟩:=Df (KI W) h1;obtain⟨x2,w2,hv2⟩:=Df (Kh Tryz.underlying5) h2;obtain⟨x3,w3,hv3⟩:=Df (Kh Tryz.underlying5) h3;obtain rfl:v0=t.val:=KO Tryz.underlying45 (hval 0 45 v0 rfl rfl) hv0;obtain rfl:v1=u.val:=KO Tryz.underlying45 (hval 1 45 v1 rfl rfl) hv1;obtain rfl:v2= .int .u8 x2:=Sy Tryz.underlying5 (hval 2 5 v2 rfl rfl) hv2;obtain rfl:v3= .int .u8 x3:=Sy Tryz.underlying5 (hval 3 5 v3 rfl rfl) hv3;exact Vp af3 bg rfl rfl Tryz.underlying4 rfl hW' (aqw W t u ht hu x2 x3 (afc w2) (afc w3))
theorem lowerMeans_holds:Rows.LowerMeansSaid:=
 OpenClaim.holds_of_wide 5 Tryz.f5 rfl rfl rfl rfl rfl rfl rfl ⟨rfl,rfl,rfl,rfl,rfl⟩ rfl rfl rfl rfl rfl bg Tryz.func5 bg
  (of_decide_eq_true bg) (by unfold Func.isWrapper;first|(rw[if_pos (by decide+kernel)];kernel_rfl)|(rw[if_neg (by decide+kernel)];exact⟨rfl,rfl⟩))
  (λos started H enc _=>apT os started H enc)
end Go.Proofs.YtgndjjdeopfdkaaGreat
