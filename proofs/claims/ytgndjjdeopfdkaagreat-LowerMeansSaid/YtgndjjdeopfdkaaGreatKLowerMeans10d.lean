import Derived.Test.YtgndjjdeopfdkaaGreatKLowerMeans10c
/- texts WA QTa of the proof of LowerMeansSaid -/
set_option maxHeartbeats 16000000
set_option maxRecDepth 20000
set_option linter.unusedVariables false
set_option linter.unusedSimpArgs false
namespace Go.Proofs.YtgndjjdeopfdkaaGreat
open Go.SX Go.RowKit
open Go.ChangeShapes Go.WideShapes Go.ChangeAt
theorem Zo{cx:Cx}{f:FuncId}{H:Heap}{S:bR}{nx i:Nat}{K:SV->Heap->bR->Nat->Prop}(t:gF)(k:Nat)(hi:(i,b_.box (cs (iH t k)) 49)∈H)(hf:∀ar w,(callFunc f ar).run cx.P w= .ok (.enter f ar) w)
 (hsm:t.bs.length<=1000000) (hby:∀x∈t.bs,x<=255) (hk:k<=t.bs.length) (hS:∀R w',S.holds R w'->(bytesD t).holds R w')
 (hc:∀w' b,u7 w' b t k->Calls cx.P f #[.pointer (some ⟨b,0,none⟩)] w' (Ki w' b t))
 (h:∀(l:List ak) (out:Int) (k':Nat),Bo l->l.length<=8->0<=out->out<l.length->K (.agg [.os nx l.length,aC out]) ((nx,.rows (bO l) 9 41)::setH i (.box (cs (iH t k')) 49) H) (S.and ((m_ l).past cx.B.w0.heap.size)) (nx+1)):aJ cx f [.lp i 0 0 0] H S nx K:=by
 rw[fZ];refine⟨hf,λρ w hw=> ?_⟩;obtain⟨R,φ,lF⟩:=hw;obtain⟨b,h1,h2,h3⟩:=lF.jA _ hi;simp only at h1 h2;rw[mF]at h3;have hRo:∀x,R x->oth w b x:=λx hx=>⟨lF.ro x hx,λe=>lF.apart _ hi x ((h2 x).2 e) hx⟩;have e:SV.dW ρ [.lp i 0 0 0]=[Value.pointer (some ⟨b,0,none⟩)]:=by
  simp only[SV.dW,SV.rf,h1,amk,fG]
 rw[e];refine(hc w b ⟨hsm,hby,(bytesD t).mono (hS R w lF.qL) hRo,hk,h3⟩).mono ?_;rintro e w' ⟨l,out,k',l0,F,hml,h8,ho0,ho1,hk',rfl,hs,hb,hF,hent,hD⟩;have hlt:(b_.box (cs (iH t k')) 49).lt nx:=λy hy=>x9 nx _ y hy;have h':=lF.store hi hlt (w':=w') λG hG=>by
  obtain⟨b',g1,g2,g3⟩:=hG;obtain rfl:b=b':=by rw[h1]at g1;simpa using g1
  exact⟨⟨hs.os,hs.tape,hs.output,hs.size,λy hy hne=>hs.block y hy λe=>hne ((g2 y).2 e)⟩,b,g1,g2,by rw[mF];exact hb⟩
 have hold:∀p∈setH i (.box (cs (iH t k')) 49) H,∀x,φ p.1 x->x<w.heap.size:=λq hq x hx=>by
  have hk:q.1∈H.map (·.1):=by rw[<-oO i (.box (cs (iH t k')) 49) H];exact abl.2 ⟨q,hq,rfl⟩
  obtain⟨q',hq',e⟩:=abl.1 hk;rw[<-e]at hx;exact b_.size (lF.jA q' hq') hx
 have ha:=h'.add (F:=F) (e:= .rows (bO l) 9 41) (l:=l0) (λy hy=>by simp[b_.hass]at hy) hent (λx hx hR=>by have:=hF x hx;have:=lF.ro x hR;omega) (λp hp x hx hx'=>by have:=hF x hx';have:=hold p hp x hx;omega);refine⟨.agg [.os nx l.length,aC out],upd ρ nx l0,_,_,nx+1,by simp[SV.rf,SV.dW,upd_same],λj hj=>mI hj,amN _,?_,?_,h l out k' hml h8 ho0 ho1⟩
 ·rw[SV.AV,SV.oV];intro v hv;simp only[abr,aiF,or_false]at hv;rcases hv with rfl|rfl
  ·exact SV.yP aa
  ·exact SV.iW _
 ·refine⟨λy=>R y\/((w.heap.size<=y/\y<w'.heap.size)/\¬F y),(λi=>if i=nx then F else φ i),ha.os,ha.tape,ha.output,ha.size,ha.pin,λy hy=>hy.elim (ha.ro y) (λh=>h.1.2),⟨S.stable (λ_ h=> .inl h) (λ_ _=>rfl) ha.qL,?_⟩,ha.key,ha.jA,λq hq y hy hy'=> ?_,ha.sep⟩
  ·exact(m_ l).stable (λy hy=>⟨.inr hy,aiC lF.size hy.1.1⟩) (λ_ _=>rfl) hD
  ·rcases hy' with hy'|hy'
   ·exact ha.apart q hq y hy hy'
   ·rcases abr.1 hq with rfl|hq
    ·simp only[if_true]at hy;exact hy'.2 hy
    ·have hne:q.1≠nx:=by have:=(h'.key q hq).1;omega
     simp only[if_neg hne]at hy;have:=hold q hq y hy;omega
abbrev akN:DT:=(bS [0,3] (.alt 1 (.alt 2 (.alt 4 (.alt 5 (bS [106,107,8,9,110,11,112,113,14] .done) (.one 6 (.alt 5 (bS [107,8,9,110,11,112,113,14] .done) (bS [107,105,8,9,110,11,112,113,14] .done)))) (.one 6 (.alt 4 (.alt 5 (bS [107,8,9,110,11,112,113,14] .done) (bS [107,105,8,9,110,11,112,113,14] .done)) (bS [107,104,105,8,9,110,11,112,113,14] .done)))) (.alt 4 (.alt 2 (.alt 5 (bS [106,107,8,9,110,11,112,113,14] .done) (.one 6 (.alt 5 (bS [107,8,9,110,11,112,113,14] .done) (bS [107,105,8,9,110,11,112,113,14] .done)))) (.alt 5 (.alt 2 (bS [106,107,8,9,110,11,112,113,14] .done) (.one 6 (.alt 2 (bS [107,8,9,110,11,112,113,14] .done) (bS [107,8,9] (.alt 2 (bS [110,11,112,113,14] .done) (bS [110,102,11,112,113,14] .done)))))) (.one 6 (.alt 2 (.alt 5 (bS [107,8,9,110,11,112,113,14] .done) (bS [107,105,8,9,110,11,112,113,14] .done)) (.alt 5 (.alt 2 (bS [107,8,9,110,11,112,113,14] .done) (bS [107,8,9] (.alt 2 (bS [110,11,112,113,14] .done) (bS [110,102,11,112,113,14] .done)))) (.one 7 (.alt 2 (bS [105,8,9,110,11,112,113,14] .done) (bS [105,8,9] (.alt 2 (bS [110,11,112,113,14] .done) (bS [110,102,11,112,113,14] .done)))))))))) (.one 6 (.alt 2 (.alt 4 (.alt 5 (bS [107,8,9,110,11,112,113,14] .done) (bS [107,105,8,9,110,11,112,113,14] .done)) (bS [107,104,105,8,9,110,11,112,113,14] .done)) (.alt 4 (.alt 2 (.alt 5 (bS [107,8,9,110,11,112,113,14] .done) (bS [107,105,8,9,110,11,112,113,14] .done)) (.alt 5 (.alt 2 (bS [107,8,9,110,11,112,113,14] .done) (bS [107,8,9] (.alt 2 (bS [110,11,112,113,14] .done) (bS [110,102,11,112,113,14] .done)))) (.one 7 (.alt 2 (bS [105,8,9,110,11,112,113,14] .done) (bS [105,8,9] (.alt 2 (bS [110,11,112,113,14] .done) (bS [110,102,11,112,113,14] .done))))))) (.one 7 (.alt 2 (bS [104,105,8,9,110,11,112,113,14] .done) (.one 4 (.alt 2 (bS [105,8,9,110,11,112,113,14] .done) (bS [105,8,9] (.alt 2 (bS [110,11,112,113,14] .done) (bS [110,102,11,112,113,14] .done)))))))))))) (.alt 4 (.alt 1 (.alt 2 (.alt 5 (bS [106,107,8,9,110,11,112,113,14] .done) (.one 6 (.alt 5 (bS [107,8,9,110,11,112,113,14] .done) (bS [107,105,8,9,110,11,112,113,14] .done)))) (.alt 5 (.alt 2 (bS [106,107,8,9,110,11,112,113,14] .done) (.one 6 (.alt 2 (bS [107,8,9,110,11,112,113,14] .done) (bS [107,8,9] (.alt 2 (bS [110,11,112,113,14] .done) (bS [110,102,11,112,113,14] .done)))))) (.one 6 (.alt 2 (.alt 5 (bS [107,8,9,110,11,112,113,14] .done) (bS [107,105,8,9,110,11,112,113,14] .done)) (.alt 5 (.alt 2 (bS [107,8,9,110,11,112,113,14] .done) (bS [107,8,9] (.alt 2 (bS [110,11,112,113,14] .done) (bS [110,102,11,112,113,14] .done)))) (.one 7 (.alt 2 (bS [105,8,9,110,11,112,113,14] .done) (bS [105,8,9] (.alt 2 (bS [110,11,112,113,14] .done) (bS [110,102,11,112,113,14] .done)))))))))) (.alt 5 (.alt 1 (.alt 2 (bS [106,107,8,9,110,11,112,113,14] .done) (.one 6 (.alt 2 (bS [107,8,9,110,11,112,113,14] .done) (bS [107,8,9] (.alt 2 (bS [110,11,112,113,14] .done) (bS [110,102,11,112,113,14] .done)))))) (.one 6 (.alt 1 (.alt 2 (bS [107,8,9,110,11,112,113,14] .done) (bS [107,8,9] (.alt 2 (bS [110,11,112,113,14] .done) (bS [110,102,11,112,113,14] .done)))) (bS [107,8,9] (.alt 1 (.alt 2 (bS [110,11,112,113,14] .done) (bS [110,102,11,112,113,14] .done)) (bS [110,101,102,11,112,113,14] .done)))))) (.one 6 (.alt 1 (.alt 2 (.alt 5 (bS [107,8,9,110,11,112,113,14] .done) (bS [107,105,8,9,110,11,112,113,14] .done)) (.alt 5 (.alt 2 (bS [107,8,9,110,11,112,113,14] .done) (bS [107,8,9] (.alt 2 (bS [110,11,112,113,14] .done) (bS [110,102,11,112,113,14] .done)))) (.one 7 (.alt 2 (bS [105,8,9,110,11,112,113,14] .done) (bS [105,8,9] (.alt 2 (bS [110,11,112,113,14] .done) (bS [110,102,11,112,113,14] .done))))))) (.alt 5 (.alt 1 (.alt 2 (bS [107,8,9,110,11,112,113,14] .done) (bS [107,8,9] (.alt 2 (bS [110,11,112,113,14] .done) (bS [110,102,11,112,113,14] .done)))) (bS [107,8,9] (.alt 1 (.alt 2 (bS [110,11,112,113,14] .done) (bS [110,102,11,112,113,14] .done)) (bS [110,101,102,11,112,113,14] .done)))) (.one 7 (.alt 1 (.alt 2 (bS [105,8,9,110,11,112,113,14] .done) (bS [105,8,9] (.alt 2 (bS [110,11,112,113,14] .done) (bS [110,102,11,112,113,14] .done)))) (bS [105,8,9] (.alt 1 (.alt 2 (bS [110,11,112,113,14] .done) (bS [110,102,11,112,113,14] .done)) (bS [110,101,102,11,112,113,14] .done)))))))))) (.one 6 (.alt 1 (.alt 2 (.alt 4 (.alt 5 (bS [107,8,9,110,11,112,113,14] .done) (bS [107,105,8,9,110,11,112,113,14] .done)) (bS [107,104,105,8,9,110,11,112,113,14] .done)) (.alt 4 (.alt 2 (.alt 5 (bS [107,8,9,110,11,112,113,14] .done) (bS [107,105,8,9,110,11,112,113,14] .done)) (.alt 5 (.alt 2 (bS [107,8,9,110,11,112,113,14] .done) (bS [107,8,9] (.alt 2 (bS [110,11,112,113,14] .done) (bS [110,102,11,112,113,14] .done)))) (.one 7 (.alt 2 (bS [105,8,9,110,11,112,113,14] .done) (bS [105,8,9] (.alt 2 (bS [110,11,112,113,14] .done) (bS [110,102,11,112,113,14] .done))))))) (.one 7 (.alt 2 (bS [104,105,8,9,110,11,112,113,14] .done) (.one 4 (.alt 2 (bS [105,8,9,110,11,112,113,14] .done) (bS [105,8,9] (.alt 2 (bS [110,11,112,113,14] .done) (bS [110,102,11,112,113,14] .done))))))))) (.alt 4 (.alt 1 (.alt 2 (.alt 5 (bS [107,8,9,110,11,112,113,14] .done) (bS [107,105,8,9,110,11,112,113,14] .done)) (.alt 5 (.alt 2 (bS [107,8,9,110,11,112,113,14] .done) (bS [107,8,9] (.alt 2 (bS [110,11,112,113,14] .done) (bS [110,102,11,112,113,14] .done)))) (.one 7 (.alt 2 (bS [105,8,9,110,11,112,113,14] .done) (bS [105,8,9] (.alt 2 (bS [110,11,112,113,14] .done) (bS [110,102,11,112,113,14] .done))))))) (.alt 5 (.alt 1 (.alt 2 (bS [107,8,9,110,11,112,113,14] .done) (bS [107,8,9] (.alt 2 (bS [110,11,112,113,14] .done) (bS [110,102,11,112,113,14] .done)))) (bS [107,8,9] (.alt 1 (.alt 2 (bS [110,11,112,113,14] .done) (bS [110,102,11,112,113,14] .done)) (bS [110,101,102,11,112,113,14] .done)))) (.one 7 (.alt 1 (.alt 2 (bS [105,8,9,110,11,112,113,14] .done) (bS [105,8,9] (.alt 2 (bS [110,11,112,113,14] .done) (bS [110,102,11,112,113,14] .done)))) (bS [105,8,9] (.alt 1 (.alt 2 (bS [110,11,112,113,14] .done) (bS [110,102,11,112,113,14] .done)) (bS [110,101,102,11,112,113,14] .done))))))) (.one 7 (.alt 1 (.alt 2 (bS [104,105,8,9,110,11,112,113,14] .done) (.one 4 (.alt 2 (bS [105,8,9,110,11,112,113,14] .done) (bS [105,8,9] (.alt 2 (bS [110,11,112,113,14] .done) (bS [110,102,11,112,113,14] .done)))))) (.one 4 (.alt 1 (.alt 2 (bS [105,8,9,110,11,112,113,14] .done) (bS [105,8,9] (.alt 2 (bS [110,11,112,113,14] .done) (bS [110,102,11,112,113,14] .done)))) (bS [105,8,9] (.alt 1 (.alt 2 (bS [110,11,112,113,14] .done) (bS [110,102,11,112,113,14] .done)) (bS [110,101,102,11,112,113,14] .done)))))))))))))
def kY:List ak->List (List Int)->Prop
 |[],inp=>inp=[]
 |n::r,inp=>if n.ai≠1 then kY r inp else∃x xs,inp=x::xs/\((x.length:Int)=au n.az.xs/\∀v∈x,n.lo<=v/\v<=n.hi)/\kY r xs
theorem Cn{n:ak}(hn:n.ai≠1):∀{l:List ak} {inp:List (List Int)},kY l inp->kY (l++[n]) inp
 |[],inp,h=>by
  simp only[akg,kY]at h|-
  rw[if_pos hn];exact h
 |m::r,inp,h=>by
  simp only[amJ,kY]at h|-
  by_cases hm:m.ai≠1
  ·rw[if_pos hm]at h|-;exact Cn hn h
  ·rw[if_neg hm]at h|-
   obtain⟨x,xs,h1,h2,h3⟩:=h;exact⟨x,xs,h1,h2,Cn hn h3⟩
theorem BA{n:ak}{y:List Int}(hn:n.ai=1)(hy:(y.length:Int)=au n.az.xs/\∀v∈y,n.lo<=v/\v<=n.hi):∀{l:List ak} {inp:List (List Int)},kY l inp->kY (l++[n]) (inp++[y])
 |[],inp,h=>by
  simp only[akg,kY]at h|-
  subst h;rw[if_neg (λh=>h hn)];exact⟨y,[],rfl,hy,rfl⟩
 |m::r,inp,h=>by
  simp only[amJ,kY]at h|-
  by_cases hm:m.ai≠1
  ·rw[if_pos hm]at h|-;exact BA hn hy h
  ·rw[if_neg hm]at h|-
   obtain⟨x,xs,h1,h2,h3⟩:=h;exact⟨x,xs++[y],by rw[h1];rfl,h2,BA hn hy h3⟩
theorem adX{w w':World}{v:Value}{l:List ax}{T:TypeId}(h:je w w' v 1 T (bA l)):∃base cap,v= .slice base l.length cap/\l.length<=cap/\(f_ base 1 (bA l)).holds (λb=>w.heap.size<=b/\b<w'.heap.size) w':=by
 obtain⟨base,cap,e,h1⟩:=ig h;obtain⟨lc,e2,F,hF,hr,hcap,_⟩:=h;rw[e2]at e;simp only[Value.slice.injEq]at e;obtain⟨e3,_,e4⟩:=e;refine⟨base,cap,?_,?_,h1⟩
 ·rw[e2,e3,e4,acN]
 ·rw[<-e4];simpa[acN]using hcap
structure Zu(l:List ak)(x:aY):Prop where
 good:kY l (x.l.map ax.xs)
 bF:∀u∈x.l,u.bF
 room:x.l.length<=x.cap
 few:x.l.length<=l.length
abbrev E5(w:World)(b:Nat)(t:gF)(l:List ak):Ending->World->Prop:=RP w b t aY.val jD (Zu l)
theorem V6{w:World}{b:Nat}{t:gF}{l:List ak}{H:Heap}{S:bR}{nx j m k:Nat}{us:List ax}(h0:(0,b_.box (cs (iH t k)) 49)∈H)(he:(j,b_.rows (bA us) 1 32)∈H)(hj:j≠0)(hm:m=us.length)(hk:k<=t.bs.length)
 (hg:kY l (us.map ax.xs)) (hs:∀u∈us,u.bF) (hf:us.length<=l.length) (hS:∀R w',S.holds R w'->(l_ w b).holds R w') (hE:∀R w',S.holds R w'->(rT w.heap.size us).holds R w'):jS ⟨w,[(0,mQ b)]⟩ (.os j m) H S nx (E5 w b t l):=by
 subst hm;refine dK λρ w' hw=> ?_;have hn:=Od hw hS h0 he hj;rw[acN]at hn;obtain⟨base,cap,e,hc,hD⟩:=adX hn;refine⟨(⟨base,cap,us⟩,k),⟨⟨hg,hs,hc,hf⟩,hk⟩,by rw[e];rfl,(qR hw hS h0).1,(qR hw hS h0).2,hD,λu hu=> ?_⟩;exact abS hw (D:=bX u) λR w' h=>hE R w' h u hu
structure aao(n:ak):Prop where
 made:Made n
 near:fJ n.lo/\fJ n.hi/\n.lo<=n.hi
theorem ahS(w:World)(b:Nat)(t:gF)(k:Nat)(h:u7 w b t k)(n m:Int)(hm:0<=m/\m<=4294967296)(hn:n=m+1):Calls Tryz.prog 40 #[.pointer (some ⟨b,0,none⟩),.int .i64 n] w (Mc w b t λr=>0<=r/\r<=m):=by
 refine(iB w b t k h n ⟨by omega,by omega⟩).mono ?_;rintro e w' ⟨x,⟨⟨h1,h2,h3⟩,h4⟩,h5⟩;refine⟨x,⟨⟨h1,?_⟩,h4⟩,h5⟩;rcases(by omega:2<=n\/n<2)with g|g
 ·have:=h2 g;omega
 ·have:=h3 g;omega
theorem Y8(w:World)(b:Nat)(t:gF)(k:Nat)(h:u7 w b t k)(gb:Option Addr)(gc:Nat)(l:List ak)(out:Int)(hlen:l.length<=24)(hr:(f_ gb 9 (bO l)).holds (oth w b) w)(hnd:(m_ l).holds (oth w b) w)(hn:∀n∈l,aao n):
 Calls Tryz.prog 13 #[.agg #[.slice gb l.length gc,.int .i64 out],.pointer (some ⟨b,0,none⟩)] w (E5 w b t l):=by
 obtain⟨hs,hby,hd,hk,hb⟩:=h;refine pq tab bW Tryz.func13 rfl rfl rfl [(0,mQ b)] (λ_=>mQ b) [.agg [.c (.slice gb l.length gc),aC out],.lp 0 0 0 0] _ (l_ w b) 1 oo rfl fO (xn hb) ?_;repeat' ((conv=>whnf)<;>first|refine a_ ?_|refine ag ?_ ?_<;>intro _)
 refine Wp.loop (σ:=Nat×Nat×Nat×List ax) 3 (λ⟨i,_,m,us⟩=>[(1,.lp 0 0 0 0),(2,.lp 1 0 0 0),(5,.os 2 m),(11,.c (.slice gb l.length gc)),(12,aC l.length),(13,aC i)]) (λ⟨_,k,_,us⟩=>[(2,.rows (bA us) 1 32),(1,.box [.c (.slice gb l.length gc),aC out] 24),(0,.box (cs (iH t k)) 49)]) (λ⟨_,_,_,us⟩=>(l_ w b).and (rT w.heap.size us))
  (λ⟨i,k,m,us⟩=>i<=l.length/\k<=t.bs.length/\kY (l.take i) (us.map ax.xs)/\(∀u∈us,u.bF)/\us.length<=i/\m=us.length) (λs=>l.length-s.1) (0,k,0,[]) [(2,none)] ay (λs=>⟨rfl,rfl⟩) ⟨aae _,hk,rfl,λu hu=>by simp at hu,Tw _,rfl⟩ ⟨rfl,⟨rfl,rfl,rfl,rfl,rfl,rfl,trivial⟩,⟨rfl,aj,aj,trivial⟩,λR w' h=>⟨h,yD _ R w'⟩⟩ ?_
 rintro⟨i,k,m,us⟩ ⟨hi,hk,hg,iL,huf,hml⟩;subst hml;by_cases hlt:i<l.length
 ·obtain⟨a,ha⟩:∃a,gb=some a:=aT (j:=i) (bf hr) ko;have hnm:=aby hlt;have htk:=ajP hlt;have hrow:=fP hlt;generalize l[i]=n at*;have hnn:=hn n hnm;obtain⟨⟨lo1,lo2⟩,⟨hi1,hi2⟩,hlh⟩:=hnn.near;by_cases hk1:n.ai=1
  ·repeat' ((conv=>whnf)<;>first|refine pR ?_|(show lK ..;(refine gI (λR w' h=>by rw[<-ha];exact bf (bC hr h.1)) _ hrow rfl ?_))|refine a_ ?_|refine ag ?_ ?_<;>intro _)
   refine Wp.loop (σ:=Nat×Nat×List Int) 5 (λ⟨j,_,xs⟩=>[(1,.lp 0 0 0 0),(2,.lp 1 0 0 0),(5,.os 2 us.length),(7,.lp 3 0 0 0),(8,.os 4 j),(9,aC j),(11,.c (.slice gb l.length gc)),(12,aC l.length),(13,aC i)]) (λ⟨_,k,xs⟩=>[(4,.rows (aZ xs) 1 3),(3,.box (cs n.cells) 41),(2,.rows (bA us) 1 32),(1,.box [.c (.slice gb l.length gc),aC out] 24),(0,.box (cs (iH t k)) 49)]) (λ_=>(l_ w b).and (rT w.heap.size us))
    (λ⟨j,k,xs⟩=>(j:Int)<=au n.az.xs/\k<=t.bs.length/\xs.length=j/\∀v∈xs,n.lo<=v/\v<=n.hi) (λs=>(au n.az.xs).toNat-s.1) (0,k,[]) [(4,none)] ay (λs=>⟨rfl,rfl⟩) ⟨(dN _).1,hk,rfl,λx hx=>by simp at hx⟩ ⟨rfl,⟨rfl,rfl,rfl,rfl,rfl,rfl,rfl,rfl,rfl,trivial⟩,⟨rfl,aj,aj,aj,aj,trivial⟩,λR w' h=>h⟩ ?_
   rintro⟨j,k,xs⟩ ⟨hj,hk,hl,hxs⟩;have heb:=(dN n.az.xs).2;subst hl;by_cases hjl:(xs.length:Int)<au n.az.xs
   ·repeat' ((conv=>whnf)<;>first|(show aJ _ 42 ..;refine aR (f:=42) Tryz.call42 (.int .i64 (au n.az.xs)) (λρ w' hw=>kr w' n.az.base n.az.cap n.az.xs (ae hw λR h=>bf (((bC hnd h.1) n hnm).1 rfl))) ?_)|(show aJ _ 40 ..;(refine eY (f:=40) [.int .i64 (n.hi-n.lo+1)] t k _ aj Tryz.call40 hs hby hk (λR w' h=>bC hd h.1) (λw' b' ht=>ahS w' b' t k ht (n.hi-n.lo+1) (n.hi-n.lo) ⟨by omega,by omega⟩ rfl) (λr k' hr hk'=> ?_)))|(show cO _ 10 ..;refine mV [] [] akN ?_ (h6:=amG _))|(show mW ..;refine ed (amG _) (λ_ _ h=>h) ?_)|refine Ag ?_|(show jv ..;(refine fU Nf ?_))|refine a_ ?_|refine ag ?_ ?_<;>intro _|refine And.intro ?_ ?_)
    all_goals(conv=>whnf)
    all_goals exact⟨(xs.length+1,k',xs++[n.lo+r]),[(4,some 6)],⟨by show((xs.length+1:Nat):Int)<=_;omega,hk',by simp,λx hx=>by
     rcases aeh.1 hx with h|h
     ·exact hxs x h
     ·rw[afe.1 h];omega⟩,by simp only;omega,rfl,⟨rfl,rfl,rfl,rfl,rfl,rfl,rfl,rfl,rfl,trivial⟩,⟨Jb xs _,aj,aj,aj,aj,trivial⟩,λR w' h=>h⟩
   ·refine Wp.ahX 4 w.heap.size (k:=1) (xs:=aZ xs) (T:=3) (b0:=b) (cells:=cs (iH t k)) (T0:=49) YV aj aj ay (λR w' h x hx hne=>(h.1 x ⟨hx,hne⟩).1) (λl1 hl1=> ?_);repeat' ((conv=>whnf)<;>first|(show aJ _ 42 ..;refine aR (f:=42) Tryz.call42 (.int .i64 (au n.az.xs)) (λρ w' hw=>kr w' n.az.base n.az.cap n.az.xs (ae hw λR h=>bf (((bC hnd h.1.1) n hnm).1 rfl))) ?_)|refine zT ?_|refine rX ?_|refine a_ ?_|refine ag ?_ ?_<;>intro _)
    all_goals(conv=>whnf)
    all_goals exact⟨(i+1,k,us.length+1,us++[ax.mk l1.base l1.cap xs]),[(2,some 6)],⟨hlt,hk,by rw[htk,afn];exact BA hk1 ⟨by show(xs.length:Int)=_;omega,hxs⟩ hg,λu hu=>by
     rcases aeh.1 hu with h|h
     ·exact iL u h
     ·rw[afe.1 h];exact⟨λx hx=>by have:=hxs x hx;omega,by simpa[aP]using hl1,by show xs.length<=_;omega⟩,by rw[adx,ag_];omega,by simp⟩,by simp only;omega,rfl,⟨rfl,rfl,rfl,rfl,rfl,rfl,trivial⟩,⟨yA us (ax.mk l1.base l1.cap xs),aj,aj,trivial⟩,λR w' h=>⟨h.1.1,mR (u:=ax.mk l1.base l1.cap xs) h.1.2 h.2⟩⟩
  ·repeat' ((conv=>whnf)<;>first|refine pR ?_|(show lK ..;(refine gI (λR w' h=>by rw[<-ha];exact bf (bC hr h.1)) _ hrow rfl ?_))|refine a_ ?_|refine ag ?_ ?_<;>intro _)
   all_goals(conv=>whnf)
   all_goals exact⟨(i+1,k,us.length,us),[],⟨hlt,hk,by rw[htk];exact Cn hk1 hg,iL,by omega,rfl⟩,by simp only;omega,rfl,fE,fE,λ_ _ h=>h⟩
 ·obtain rfl:i=l.length:=by omega
  rw[aen (Tw _)]at hg;repeat' ((conv=>whnf)<;>first|refine a_ ?_|refine ag ?_ ?_<;>intro _)
  all_goals(conv=>whnf)
  exact V6 aj aj ay rfl hk hg iL huf (λ_ _ h=>h.1) (λ_ _ h=>h.2)
section
theorem El{m:Int}:∀(l:List Int) (x:Int),m<=x->(∀y∈l,m<=y)->m<=l.foldl min x
 |[],x,h,_=>h
 |z::r,x,h,hl=>by
  rw[ahb];have:=hl z YV;exact El r _ aa λy hy=>hl y (aeg _ hy)
theorem Ep{m:Int}:∀(l:List Int) (x:Int),x<=m->(∀y∈l,y<=m)->l.foldl max x<=m
 |[],x,h,_=>h
 |z::r,x,h,hl=>by
  rw[ahb];have:=hl z YV;exact Ep r _ aa λy hy=>hl y (aeg _ hy)
variable {l:List Int} {m:Int}
theorem afa(hn:l≠[])(h:∀y∈l,m<=y):m<=foldI min l:=by
 cases l with
 |nil=>exact absurd rfl hn
 |cons x r=>exact El r x (h x YV) λy hy=>h y (aeg _ hy)
theorem acz(hn:l≠[])(h:∀y∈l,y<=m):foldI max l<=m:=by
 cases l with
 |nil=>exact absurd rfl hn
 |cons x r=>exact Ep r x (h x YV) λy hy=>h y (aeg _ hy)
def mkI(l:List Int):ax:=⟨none,l.length,l⟩
theorem Xe(h:∀x∈l,fJ x)(hl:l.length<=64):(mkI l).bF:=⟨λx hx=>by have:=h x hx;unfold fJ at this;show _/\_;omega,Tw _,by show l.length<=_;omega⟩
theorem Ht{g:bM}(hsp:(cZ g).1=0):∀{r:List ak} {k:Nat} {kn:List ax} {inp:List (List Int)},k<=g.l.length->g.l.drop k=r->Gc g kn k->kY r inp->∃kn':List ax,d9 (check g).2 r (kn.map ax.xs) inp=(0,kn'.map ax.xs)/\Gc g kn' g.l.length
 |[],k,kn,inp,hk,hr,hkn,hg=>by
  simp only[kY]at hg;subst hg;have:g.l.length<=k:=List.drop_eq_nil_iff.1 hr;obtain rfl:k=g.l.length:=by omega
  exact⟨kn,by simp[d9],hkn⟩
 |n::r,k,kn,inp,hk,hr,hkn,hg=>by
  obtain⟨hck,hsl,hsi⟩:=jC hsp;obtain⟨hl1,Ez,hout,hcl,hin⟩:=gK hck;have hlt:k<g.l.length:=by
   rcases ack k g.l.length with h|h
   ·exact h
   ·rw[List.drop_eq_nil_of_le h]at hr;cases hr
  have hdrop:g.l.drop k=g.l[k]::g.l.drop (k+1):=ahc hlt;rw[hdrop]at hr;have hgk:g.l[k]? =some n:=by rw[YL hlt];simp only[List.cons.injEq]at hr;rw[hr.1]
  have hr2:g.l.drop (k+1)=r:=by simp only[List.cons.injEq]at hr;exact hr.2
  obtain⟨s,hs,hni⟩:=hin k n hgk;obtain⟨p,hp,hpe,hp1,hp2⟩:=hsi k n hgk;obtain⟨⟨ha0,akK,hai⟩,⟨hb0,alB,hbi⟩,cnt,HY,hpl⟩:=yl hck hgk;have e1:(check g).2.getD k []=s:=by rw[TR,hs];rfl
  rw[e1]at HY hpl;have hcb:=(dN s).2;have hkl:=hkn.len;have aea:(kn.map ax.xs).length=k:=by rw[aas,hkl]
  have hti:((check g).2.take k).length=k:=by rw[aek,hcl];omega
  have hform:=hni.form;rw[hti]at hform;simp only[kY]at hg;by_cases hk1:n.ai=1
  ·rw[if_neg (λh=>h hk1)]at hg;obtain⟨x,xs,rfl,⟨hx1,hx2⟩,hg⟩:=hg;have hsx:s=n.az.xs:=by
    have:=hni.az;unfold bP at this;rw[if_pos (.inl hk1)]at this;simpa using this.symm
   have hL:jm (check g).2 n ((cZ g).2.take k)=[n.lo,n.hi]:=by
    unfold jm jw;rw[if_neg jF];exact if_pos hk1
   have hwi:within p x:=by
    rw[hpe];unfold r9 rq;rw[hL];intro z hz;have m1:foldI min [n.lo,n.hi]=min n.lo n.hi:=rfl;have m2:foldI max [n.lo,n.hi]=max n.lo n.hi:=rfl;have:=hx2 z hz;simp only[m1,m2];omega
   have hxl:x.length<=64:=by rw[<-hsx]at hx1;omega
   have hne:x≠[]:=by
    intro e;have:=hpl.few;rw[e]at hx1;rw[<-hsx]at hx1;simp only[amn]at hx1;omega
   have hbad:¬((x.length:Int)≠au s\/foldI min x<n.lo\/n.hi<foldI max x):=by
    rw[hsx];have h1:n.lo<=foldI min x:=afa hne λy hy=>(hx2 y hy).1;have h2:foldI max x<=n.hi:=acz hne λy hy=>(hx2 y hy).2;omega
   have hv:d9 (check g).2 (n::r) (kn.map ax.xs) (x::xs)=d9 (check g).2 r (kn.map ax.xs++[x]) xs:=by
    conv=>lhs;unfold d9
    rw[if_neg (λh=>h hk1)];simp only;rw[aea,e1,if_neg hbad]
   rw[hv];have hkn2:=xI hkn (x:=mkI x) (Xe (λy hy=>by have:=hwi y hy;unfold fJ;omega) hxl) hp hs hwi (by show(x.length:Int)=_;rw[hsx];exact hx1);have:=Ht hsp aa hr2 hkn2 hg;rw[afn]at this;exact this
  ·rw[if_pos hk1]at hg;have kA:=ow hsp hkn aa n.a.toNat;have kB:=ow hsp hkn aa n.b.toNat;have acA:=abo hsp hkn aa (dJ hform);have hpl':gN n ((check g).2.take k) s (mkI ((check g).2.getD n.a.toNat [])).xs cnt:=hpl;have hwn:=Ul hpl' hk1 acA kA.1 kB.1;have hEq:jm (check g).2 n ((cZ g).2.take k)=jw n cnt (mkI ((check g).2.getD n.a.toNat [])).xs (((cZ g).2.take k).getD n.a.toNat (0,0)) (((cZ g).2.take k).getD n.b.toNat (0,0)):=by
    unfold jm;rw[show((cZ g).2.take k).length=k by rw[aek,hsl];omega,e1,HY];rfl
   have hv:d9 (check g).2 (n::r) (kn.map ax.xs) inp=d9 (check g).2 r (kn.map ax.xs++[gH n cnt (mkI ((check g).2.getD n.a.toNat [])).xs (kn.getD n.a.toNat cK).xs (kn.getD n.b.toNat cK).xs]) inp:=by
    conv=>lhs;unfold d9
    unfold gy;rw[if_pos hk1,zl,zl,aea,e1,HY];rfl
   rw[hv];have hwi:within p (gH n cnt (mkI ((check g).2.getD n.a.toNat [])).xs (kn.getD n.a.toNat cK).xs (kn.getD n.b.toNat cK).xs):=by
    rw[hpe];unfold r9;rw[hEq];exact hwn.1
   have hkn2:=xI hkn (x:=mkI (gH n cnt (mkI ((check g).2.getD n.a.toNat [])).xs (kn.getD n.a.toNat cK).xs (kn.getD n.b.toNat cK).xs)) (Xe (λy hy=>by have:=hwi y hy;unfold fJ;omega) (by rw[hwn.2];exact hpl.few.2)) hp hs hwi (by show((gH _ _ _ _ _).length:Int)=_;rw[hwn.2,HY]);have:=Ht hsp aa hr2 hkn2 hg;rw[afn]at this;exact this
variable {g:bM}
theorem ac1(hsp:(cZ g).1=0){inp:List (List Int)}(hg:kY g.l inp):∃vals,pE g inp=(0,vals)/\∀i,i<g.l.length->within ((cZ g).2.getD i (0,0)) (vals.getD i []):=by
 obtain⟨kn,h1,h2⟩:=Ht hsp (k:=0) (kn:=[]) (aae _) rfl ⟨rfl,λu hu=>by simp at hu,λj u s q hu=>by simp at hu⟩ hg;refine⟨kn.map ax.xs,h1,λi hi=> ?_⟩;have:=(ow hsp h2 (Tw _) i).1;rw[zl,aen (by rw[(jC hsp).2.1];exact Tw _)]at this;exact this
end
end Go.Proofs.YtgndjjdeopfdkaaGreat
