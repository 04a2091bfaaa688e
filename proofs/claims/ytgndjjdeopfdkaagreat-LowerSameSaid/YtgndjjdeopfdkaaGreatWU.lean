import Derived.Test.YtgndjjdeopfdkaaGreatKLowerSame13
/- texts WU of the proof of LowerSameSaid -/
set_option maxHeartbeats 16000000
set_option maxRecDepth 20000
set_option linter.unusedVariables false
set_option linter.unusedSimpArgs false
namespace Go.Proofs.YtgndjjdeopfdkaaGreat
open Go.SX Go.ChangeShapes Go.WideShapes Go.ChangeAt Go.RowKit
theorem afc{x:Int}(h:(Lit.int .u8 x).wf=true):0<=x/\x<=255:=by
 simp[Lit.wf,IntKind.min,IntKind.max,IntKind.signed,IntKind.bits]at h
 omega
theorem Qw{H:Type}{enc:TypeId×Value->H}{P:Program}{w:World}{base:Nat}{spare:Nat->Bool}{held:Bool}{t0 t1 t2 t3:TypeId}{args:Array Value}{ds:List (DataW H)}{ps:List MemPlace}(h:DataW.TrodAll enc P w base spare held [t0,t1,t2,t3] args.toList ds ps):
 ∃v0 v1 v2 v3 d0 d1 d2 d3 p0 p1 p2 p3,args= #[v0,v1,v2,v3]/\ds=[d0,d1,d2,d3]/\DataW.Trod enc P w base spare held t0 v0 d0 p0/\DataW.Trod enc P w base spare held t1 v1 d1 p1/\DataW.Trod enc P w base spare held t2 v2 d2 p2/\DataW.Trod enc P w base spare held t3 v3 d3 p3:=by
 obtain⟨v0,vs0,d0,ds0,p0,q0,e0,rfl,rfl,h0,r0⟩:=trodAll_cons h
 obtain⟨v1,vs1,d1,ds1,p1,q1,rfl,rfl,rfl,h1,r1⟩:=trodAll_cons r0
 obtain⟨v2,vs2,d2,ds2,p2,q2,rfl,rfl,rfl,h2,r2⟩:=trodAll_cons r1
 obtain⟨v3,vs3,d3,ds3,p3,q3,rfl,rfl,rfl,h3,r3⟩:=trodAll_cons r2
 obtain⟨rfl,rfl,rfl⟩:=trodAll_nil r3
 exact⟨v0,v1,v2,v3,d0,d1,d2,d3,p0,p1,p2,p3,by cases args;simp_all,rfl,h0,h1,h2,h3⟩
theorem YV(w:World)(t d:gF)(ht:t.raw w)(hd:d.raw w)(a b:Int)(ha:0<=a/\a<=255)(hb:0<=b/\b<=255):Calls Tryz.prog 6 #[t.val,d.val,.int .u8 a,.int .u8 b] w λe w'=>e= .returned (.bool true)/\Ext w w':=by
 obtain⟨m,rfl⟩:∃m:Nat,a=m:=⟨a.toNat,by omega⟩
 obtain⟨n,rfl⟩:∃n:Nat,b=n:=⟨b.toNat,by omega⟩
 exact YL w t d ht hd m n aa aa
theorem TR(os:Os)(started:os.Started)(H:Type)(enc:TypeId×Value->H):
 ReturnsInHanded {} Tryz.checked os 6 .any (Rows.lowerSameSpec.pre6 enc Tryz.prog Tryz.f6 Rows.lowerSameRow.domain false) (Rows.lowerSameSpec.post enc Tryz.prog Tryz.f6 false true false false):=by
 refine returnsInHanded_of_change (C:=Tryz.checked) an2 started bg Tryz.func6
  (ChangeSpec.witness6 (enc:=enc) (C:=Tryz.checked) false ⟨#[],#[.slice none 0 0,.slice none 0 0,.int .u8 0,.int .u8 0],[]⟩ 8 bg bg bg bg) ?_
 intro W base args ds gs before hval0 hW hcnd _
 have hval:∀(j:Nat) t v,Tryz.f6.params[j]? =some t->args[j]? =some v->Value.okWide Tryz.prog W .any base t v:=hval0
 have hW':=hW
 obtain⟨p,q,hA0,hV,rfl,hfz,hnd⟩:=hW
 have hA:DataW.TrodAll enc Tryz.prog W 0 (λ_=>true) true Tryz.f6.params.toList args.toList ds p:=hA0
 rw[Tryz.params6]at hA hval
 obtain⟨v0,v1,v2,v3,d0,d1,d2,d3,p0,p1,p2,p3,rfl,rfl,h0,h1,h2,h3⟩:=Qw hA
 obtain⟨t,hv0,ht⟩:=Df (KI W) h0
 obtain⟨u,hv1,hu⟩:=Df (KI W) h1
 obtain⟨x2,w2,hv2⟩:=Df (Kh Tryz.underlying5) h2
 obtain⟨x3,w3,hv3⟩:=Df (Kh Tryz.underlying5) h3
 obtain rfl:v0=t.val:=KO Tryz.underlying45 (hval 0 45 v0 rfl rfl) hv0
 obtain rfl:v1=u.val:=KO Tryz.underlying45 (hval 1 45 v1 rfl rfl) hv1
 obtain rfl:v2= .int .u8 x2:=Sy Tryz.underlying5 (hval 2 5 v2 rfl rfl) hv2
 obtain rfl:v3= .int .u8 x3:=Sy Tryz.underlying5 (hval 3 5 v3 rfl rfl) hv3
 exact Vp af3 bg rfl rfl Tryz.underlying4 rfl hW' (YV W t u ht hu x2 x3 (afc w2) (afc w3))
theorem lowerSame_holds:Rows.LowerSameSaid:=
 OpenClaim.holds_of_wide 6 Tryz.f6 rfl rfl rfl rfl rfl rfl rfl ⟨rfl,rfl,rfl,rfl,rfl⟩ rfl rfl rfl rfl rfl bg Tryz.func6 bg
  (of_decide_eq_true bg) (by unfold Func.isWrapper;first|(rw[if_pos (by decide+kernel)];kernel_rfl)|(rw[if_neg (by decide+kernel)];exact⟨rfl,rfl⟩))
  (λos started H enc _=>TR os started H enc)
end Go.Proofs.YtgndjjdeopfdkaaGreat
