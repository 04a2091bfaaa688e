import Derived.Test.YtgndjjdeopfdkaaGreatKLowerMeans10d
/- texts WA QTa of the proof of LowerMeansSaid -/
set_option maxHeartbeats 16000000
set_option maxRecDepth 20000
set_option linter.unusedVariables false
set_option linter.unusedSimpArgs false
namespace Go.Proofs.YtgndjjdeopfdkaaGreat
open Go.SX Go.RowKit
open Go.ChangeShapes Go.WideShapes Go.ChangeAt
structure gF.raw(w:World)(t:gF):Prop where
 rows:bE w t.base 1 (EU t.bs)
 fits:∀x∈t.bs,x<=255
theorem ZQ{w:World}{a:Addr}{v:Value}(h:w.cell? a=some v):a=⟨a.block,a.off,none⟩:=by
 obtain⟨b,o,p⟩:=a;cases p with
 |none=>rfl
 |some x=>
  simp only[World.cell?,Option.isSome_some,if_true]at h;split at h<;>cases h
theorem aaH{w:World}{t:gF}(h:t.raw w):(bytesD t).holds (λb=>b<w.heap.size) w:=by
 refine⟨λr hr=> ?_,?_⟩
 ·simp only[EU,abl]at hr;obtain⟨x,_,rfl⟩:=hr;exact⟨rfl,λv hv=>by simp at hv;subst hv;rfl⟩
 rcases h.rows with h0|⟨a,ha,hc⟩
 ·exact .inl h0
 ·cases hl:t.bs with
  |nil=>exact .inl rfl
  |cons x r=>
   have h1:w.cell? (a.add (0*1+0))=some (.int .u8 (x:Int)):=hc 0 [.int .u8 (x:Int)] (by rw[hl];rfl) 0 _ rfl;have h2:a.add (0*1+0)=a:=by simp[Addr.add]
   rw[h2]at h1;have ea:=ZQ h1;refine .inr ⟨a.block,a.off,by rw[ha,<-ea],iA h1,λi q hi j v hj=> ?_⟩;have:=hc i q (by rw[hl];exact hi) j v hj;rw[ea,fG]at this;exact this
theorem NV{w w':World}{R:Nat->Prop}{t:gF}(h:t.raw w)(hb:(aU w).holds R w'):(bytesD t).holds R w':=
 (bytesD t).stable (λb hb'=>(hb b hb').1) (λb hb'=>(hb b hb').2) (aaH h)
theorem akh{x:Int}(h:(Lit.int .u8 x).wf=true):0<=x/\x<=255:=by
 simp[Lit.wf,IntKind.min,IntKind.max,IntKind.signed,IntKind.bits]at h;omega
theorem KI(w:World):H9 Tryz.prog w 45 λcs=>∃t:gF,cs=[t.val]/\t.raw w:=by
 refine H9.mono (Vw (k:=1) Tryz.underlying45 bg (Kh Tryz.underlying5)) ?_;rintro cs ⟨base,cap,xs,rfl,h1,h2,h3,h4,h5⟩;obtain⟨l,rfl,hl⟩:=Kz (f:=λ(i:Nat)=>[Value.int .u8 (i:Int)]) (p:=λi=>i<=255) λr hr=>by
  obtain⟨_,i,hi,rfl⟩:=h2 r hr;have:=akh hi;exact⟨i.toNat,by omega,by rw[show((i.toNat:Nat):Int)=i by omega]⟩
 exact⟨⟨base,cap,l⟩,by simp[gF.val],h1,hl⟩
theorem Yp{cx:Cx}{f:FuncId}{H:Heap}{S:bR}{nx i:Nat}{K:SV->Heap->bR->Nat->Prop}(t:gF)(k:Nat)(gb:Option Addr)(gc:Nat)(l:List ak)(out:Int)(hi:(i,b_.box (cs (iH t k)) 49)∈H)(hf:∀ar w,(callFunc f ar).run cx.P w= .ok (.enter f ar) w)
 (hsm:t.bs.length<=1000000) (hby:∀x∈t.bs,x<=255) (hk:k<=t.bs.length) (hS:∀R w',S.holds R w'->(bytesD t).holds R w') (hlen:l.length<=24) (hr:∀R w',S.holds R w'->(f_ gb 9 (bO l)).holds R w') (hnd:∀R w',S.holds R w'->(m_ l).holds R w') (hn:∀n∈l,aao n)
 (hc:∀w' b,u7 w' b t k->(f_ gb 9 (bO l)).holds (oth w' b) w'->(m_ l).holds (oth w' b) w'->Calls cx.P f #[.agg #[.slice gb l.length gc,.int .i64 out],.pointer (some ⟨b,0,none⟩)] w' (E5 w' b t l))
 (h:∀x k',Zu l x->K (.c x.val) (setH i (.box (cs (iH t k')) 49) H) (S.and ((jD x).past cx.B.w0.heap.size)) nx):aJ cx f [.agg [.c (.slice gb l.length gc),aC out],.lp i 0 0 0] H S nx K:=by
 refine XJ hi hf (λx:aY×Nat=>x.1.val) (λx=>iH t x.2) (λx=>jD x.1) (λx=>Zu l x.1/\x.2<=t.bs.length) ?_ (λx hx=>h x.1 x.2 hx.1);intro R ρ w' b hw hR hRo hρ hb;rw[mF]at hb;have:=hc w' b ⟨hsm,hby,(bytesD t).mono (hS R w' hR) hRo,hk,hb⟩ ((f_ gb 9 (bO l)).mono (hr R w' hR) hRo) ((m_ l).mono (hnd R w' hR) hRo);have e:SV.dW ρ [.agg [.c (.slice gb l.length gc),aC out],.lp i 0 0 0]=[.agg #[.slice gb l.length gc,.int .i64 out],.pointer (some ⟨b,0,none⟩)]:=by
  simp only[SV.dW,SV.rf,hρ,amk,fG]
 rw[e];exact this
theorem PR{l:List ak}(hml:Bo l)(D5:l.length<=24):∃sh,fq l []=(0,sh)/\∀base cap out,0<=out->out<(l.length:Int)->check ⟨base,cap,l,out⟩=(0,sh):=by
 obtain⟨sh,hsh,_⟩:=hml.shapes;exact⟨sh,hsh,λbase cap out h0 h1=>Ga hml.one D5 ⟨h0,h1⟩ hsh⟩
theorem aad{l:List ak}{sh:List (List Int)}(hck:∀base cap out,0<=out->out<(l.length:Int)->check ⟨base,cap,l,out⟩=(0,sh))(base:Option Addr)(cap:Nat)(out:Int)(h0:0<=out)(h1:out<l.length):cZ ⟨base,cap,l,out⟩=iJ sh l []/\∀inp,pE ⟨base,cap,l,out⟩ inp=d9 sh l [] inp:=by
 unfold cZ pE;rw[hck base cap out h0 h1];exact⟨rfl,λ_=>rfl⟩
theorem Sm{l:List ak}(hml:Bo l)(D5:l.length<=24):∀n∈l,aao n:=by
 obtain⟨sh,hsh,hck⟩:=PR hml D5;have h1:=hml.one;have hc:=hck none 0 0 (aem _) aa;obtain⟨_,_,_,_,hin⟩:=gK (g:=⟨none,0,l,0⟩) (by rw[hc]);intro n hn;obtain⟨i,hi⟩:=amd.1 hn;obtain⟨s,hs,hni⟩:=hin i n hi;obtain⟨nd,nb,nlo,nhi,nle⟩:=Gp hni.near;exact⟨hml.each n hn,nlo,nhi,nle⟩
theorem asM{g:bM}(hck:(check g).1=0){i:Nat}{n:ak}(hn:g.l[i]? =some n){acc:List Sp}(ha:acc.length=i):(r9 (check g).2 n acc).1<=(r9 (check g).2 n acc).2:=by
 obtain⟨_,_,cnt,hcnt,hpl⟩:=yl hck hn;unfold r9 rq;refine XT ?_;unfold jm;rw[ha,hcnt];exact I7 hpl _ _
section
structure Bi(l:List ak)(sh:List (List Int)):Prop where
 made:Bo l
 shapes:fq l []=(0,sh)
 ok:∀s∈sh,uH s
variable {l:List ak}
theorem Bo.s(h:Bo l):∃sh,Bi l sh:=by
 obtain⟨sh,h1,h2⟩:=h.shapes;exact⟨sh,h,h1,h2⟩
variable {sh:List (List Int)}
theorem Bi.len(h:Bi l sh):sh.length=l.length:=by
 have:=x_ l [] (by rw[h.shapes]);rw[h.shapes]at this;simpa using this
theorem Bi.snoc{n:ak}(h:Bi l sh)(hn:lZ n sh){s:List Int}(hs:bP n sh=some s):Bi (l++[n]) (sh++[s]):=by
 obtain⟨s',h1,h2⟩:=hn.az;obtain rfl:s'=s:=by rw[hs]at h1;simpa using h1.symm
 exact⟨Fz h.made h.shapes hn h.ok,xx h.shapes hn.form hs hn.near,λx hx=>by
  rcases aeh.1 hx with hx|hx
  ·exact h.ok x hx
  ·simp at hx;subst hx;exact h2⟩
theorem Bi.check{l:List ak}{sh:List (List Int)}(h:Bi l sh)(D5:l.length<=24)(base:Option Addr)(cap:Nat){out:Int}(h0:0<=out)(h1:out<l.length):check ⟨base,cap,l,out⟩=(0,sh):=Ga h.made.one D5 ⟨h0,h1⟩ h.shapes
theorem Bi.a{l:List ak}{sh:List (List Int)}(h:Bi l sh)(D5:l.length<=24):∀n∈l,n.a.toNat<sh.length:=by
 have h1:=h.made.one;have hc:=h.check D5 none 0 (out:=0) (aem _) aa;intro n hn;obtain⟨i,hi⟩:=amd.1 hn;have:=(yl (g:=⟨none,0,l,0⟩) (by rw[hc]) hi).1.2.1;rw[hc]at this;exact this
theorem Bi.run{inp:List (List Int)}(h:Bi l sh)(D5:l.length<=24)(hg:kY l inp)(hsp:(iJ sh l []).1=0):∃vals,d9 sh l [] inp=(0,vals)/\vals.length=l.length/\(∀i,i<l.length->(∀x∈vals.getD i [],fJ x)/\((vals.getD i []).length:Int)=au (sh.getD i []))/\∀base cap (out:Int),0<=out->out<l.length->Je ⟨base,cap,l,out⟩ inp=(0,vals.getD out.toNat []):=by
 have h1:=h.made.one;have hc:=λbase cap (out:Int) (h0:0<=out) (h1:out<l.length)=>h.check D5 base cap h0 h1;have hS:=aad hc;obtain⟨q1,q2⟩:=hS none 0 0 (aem _) aa;obtain⟨kn,v1,v2⟩:=Ht (g:=⟨none,0,l,0⟩) (by rw[q1];exact hsp) (k:=0) (kn:=[]) (aae _) rfl ⟨rfl,λu hu=>by simp at hu,λj u s q hu=>by simp at hu⟩ hg;rw[hc none 0 0 (aem _) aa]at v1;have hkl:kn.length=l.length:=v2.len;have v1:d9 sh l [] inp=(0,kn.map ax.xs):=v1;refine⟨kn.map ax.xs,v1,by rw[aas,hkl],λi hi=> ?_,λbase cap out h0 h1=> ?_⟩
 ·have:=ow (g:=⟨none,0,l,0⟩) (by rw[q1];exact hsp) v2 (Tw _) i;rw[<-zl];refine⟨this.2.1,?_⟩;have e:=this.2.2 hi;rw[hc none 0 0 (aem _) aa]at e;rw[e,aen (by rw[h.len];exact Tw _)]
 ·obtain⟨r1,r2⟩:=hS base cap out h0 h1;unfold Je;rw[r1,r2,if_neg aa,v1,if_neg aI]
theorem KP{n:ak}{cnt:Nat}{t a b:List Int}(h:¬eF n):gH n cnt t a b=(List.range cnt).map (gu n a b):=if_neg h
variable {k:Nat}
theorem Dp{α:Type}{l:List α}{x d:α}(h:k=l.length):(l++[x]).getD k d=x:=by
 subst h;rw[TR,ahg (Tw _),aiH];rfl
theorem DD{α:Type}{l r:List α}{d:α}(h:k<l.length):(l++r).getD k d=l.getD k d:=by
 rw[TR,TR,ag9 h]
end
def at0(n:ak):ak:={n with a:=0}
theorem Yf{n:ak}(hk:eF n\/n.ai=9){m:Nat}(h:cz n m=true):cz (at0 n) 1=true:=by
 unfold eF at hk;unfold cz at h|-
 unfold gW iI at h|-
 simp only[at0];rcases hk with(h3|h4|h5)|h9
 ·simp only[h3]at h|-;simp at h|-;grind
 ·simp only[h4]at h|-;simp at h|-;grind
 ·simp only[h5]at h|-;simp at h|-;grind
 ·simp only[h9]at h|-;simp at h|-;grind
theorem adF{n:ak}(hk:eF n\/n.ai=9){sh:List (List Int)}{t s:List Int}(ht:sh.getD n.a.toNat []=t)(h:bP n sh=some s):bP (at0 n) [t]=some s:=by
 subst ht;unfold eF at hk;unfold bP at h|-
 rcases hk with(h3|h4|h5)|h9
 ·simp only[at0,h3]at h|-;simpa using h
 ·simp only[at0,h4]at h|-;simpa using h
 ·simp only[at0,h5]at h|-;simpa using h
 ·simp only[at0,h9]at h|-;simpa using h
theorem afZ{n:ak}(h:gP n=true):gP (at0 n)=true:=by
 unfold gP at h|-;exact h
theorem acp{t:ax}(h:0<au t.xs)(m:Nat):cz (inpN t) m=true:=by
 unfold cz gW;simp[inpN,af5,h]
theorem acE(t:ax):gP (inpN t)=true:=by
 unfold gP nR;simp[inpN,af5]
theorem rows_ok{n:ak}{sh:List (List Int)}{s:List Int}{t:ax}{m:Nat}(hk:eF n\/n.ai=9)(hf:cz n m=true)(ht:sh.getD n.a.toNat []=t.xs)(hs:bP n sh=some s)(hn:gP n=true)(hp:0<au t.xs):sW (at0 n) t/\(zB (at0 n) t).2=[t.xs,s]:=by
 have hc:zB (at0 n) t=(0,[t.xs,s]):=by
  unfold zB check;rw[if_neg aI];show fq [inpN t,at0 n] []=_;rw[iE (acp hp _) (show bP (inpN t) []=some t.xs by unfold bP;rw[if_pos (.inl rfl)];rfl) (acE t)];show fq [at0 n] [t.xs]=_;rw[iE (Yf hk hf) (adF hk ht hs) (afZ hn)]
  rfl
 refine⟨⟨?_,rfl,by rw[hc]⟩,by rw[hc]⟩;unfold eF at hk|-
 exact hk
section
abbrev atE:DT:=(bS [0,1,2,3,4,5,6,107,108] .done)
variable {f:Int->Int->Int} {l:List Int}
theorem apw{x:Int}{i:Nat}(h:i<l.length):(l.take (i+1)).foldl f x=f ((l.take i).foldl f x) (l.getD i 0):=by
 have e:l.getD i 0=l[i]:=by rw[TR,YL h];rfl
 rw[ajP h,List.foldl_append,e];rfl
theorem apH(hf:∀x,f x x=x)(h:1<=l.length):l.foldl f (l.getD 0 0)=foldI f l:=by
 cases l with
 |nil=>simp at h
 |cons x r=>show(r.foldl f (f x x))=r.foldl f x;rw[hf]
theorem aos(w:World)(l:ax)(hl:l.ok w)(h1:1<=l.xs.length):Calls Tryz.prog 89 #[l.val] w λe w'=>e= .returned (o7 (foldI min l.xs,foldI max l.xs))/\Ext w w':=by
 obtain⟨ua,rO⟩:=hl.base h1;have hur:∀(R:Nat->Prop) w',(aU w).holds R w'->bE w' (some ua) 1 (aZ l.xs):=λR w' h=>by rw[<-rO];exact aH h hl.rows
 have hf:=hl.few;refine fH Tryz.func89 [.c l.val] ?_;repeat' ((conv=>whnf)<;>first|(show dn ..;refine aM ua 0 rO rfl aa ?_)|refine nY ?_|(show cO _ 1 ..;refine mV [8] _ atE ?_)|refine a_ ?_)
 all_goals refine Wp.loop (σ:=Nat) 2 (λi=>[(2,.lp 0 0 0 0),(3,.lp 1 0 0 0),(13,.c l.val),(14,aC l.xs.length),(15,aC i)]) (λi=>[(1,.box [aC ((l.xs.take i).foldl min (l.xs.getD 0 0)),aC ((l.xs.take i).foldl max (l.xs.getD 0 0))] 58),(0,.box [aC 0,aC 0] 58)]) (λ_=>aU w) (λi=>i<=l.xs.length) (λi=>l.xs.length-i) 0 [] ay (λs=>⟨rfl,rfl⟩) (aae _) ⟨rfl,⟨rfl,rfl,rfl,rfl,rfl,trivial⟩,fE,λ_ _ h=>h⟩ ?_
 all_goals rintro i hi
 all_goals by_cases hlt:i<l.xs.length
 ·repeat' ((conv=>whnf)<;>first|(show dn ..;refine aM ua i rO rfl hlt ?_)|(show gZ ..;refine dP hur (j:=i) hlt ?_)|refine a_ ?_|refine ag ?_ ?_<;>intro _)
  all_goals(conv=>whnf)
  all_goals exact⟨i+1,[],hlt,by omega,rfl,fE,⟨by rw[apw hlt,apw hlt];first|(rw[Int.min_eq_left aa,Int.max_eq_left aa];exact aj)|(rw[Int.min_eq_left aa,Int.max_eq_right aa];exact aj)|(rw[Int.min_eq_right aa,Int.max_eq_left aa];exact aj)|(rw[Int.min_eq_right aa,Int.max_eq_right aa];exact aj),aj,trivial⟩,λ_ _ h=>h⟩
 ·obtain rfl:i=l.xs.length:=by omega
  rw[aen (Tw _),apH aa h1,apH aa h1];repeat' ((conv=>whnf)<;>first|refine a_ ?_|refine ag ?_ ?_<;>intro _)
  all_goals(conv=>whnf)
  all_goals exact bZ (λ_ _ h=>h) (λ_=>rfl) rfl
theorem aoE(w:World)(k:Int):Calls Tryz.prog 90 #[.int .i64 k] w λe w'=>e= .returned (.bool (decide (k=3\/k=4\/k=5)))/\Ext w w':=by
 refine fH Tryz.func90 [aC k] ?_;repeat' ((conv=>whnf)<;>first|refine a_ ?_|refine ag ?_ ?_<;>intro _)
 all_goals(conv=>whnf)
 all_goals exact bZ (λ_ _ h=>h) (λ_=>by first|(rw[decide_eq_true aa];rfl)|(rw[decide_eq_false aa];rfl)) rfl
theorem aph(w:World)(c b a v:Int)(hc:fJ c)(hb:fJ b)(ha:fJ a)(hv:fJ v):Calls Tryz.prog 92 #[.int .i64 c,.int .i64 b,.int .i64 a,.int .i64 v] w λe w'=>e= .returned (.int .i64 (a*v*v+b*v+c))/\Ext w w':=by
 obtain⟨h1,h2,h3⟩:=afM ha hb hc hv;unfold fJ at hc;refine fH Tryz.func92 [aC c,aC b,aC a,aC v] ?_;repeat' ((conv=>whnf)<;>first|refine a_ ?_|refine ag ?_ ?_<;>intro _)
 all_goals(conv=>whnf)
 all_goals exact bZ (λ_ _ h=>h) (λ_=>rfl) rfl
end
section
theorem ase{cx:Cx}{f:FuncId}{args:List SV}{H:Heap}{S:bR}{nx:Nat}{K:SV->Heap->bR->Nat->Prop}(n:ak)(tl:List Int)(cnt:Nat)(hf:∀ar w,(callFunc f ar).run cx.P w= .ok (.enter f ar) w)
 (hc:∀ρ w',dO cx.B ρ nx H S w'->Calls cx.P f (SV.dW ρ args).toArray w' (aog w' n tl cnt))
 (h:∀x:ahA,aa_ n tl cnt x->K (.c x.val) H (S.and ((aoB x).past cx.B.w0.heap.size)) nx):aJ cx f args H S nx K:=by
 rw[fZ];refine⟨hf,λρ w hw=>(hc ρ w hw).mono ?_⟩;rintro e w' ⟨x,hx,rfl,he,hD⟩;exact⟨.c x.val,ρ,H,_,nx,rfl,λ_ _=>rfl,Tw _,SV.iW _,hw.grow he hD,h x hx⟩
theorem aq7(g:Nat->Int->Int)(B:Int):∀{l:List Int} {i:Nat},(∀k w,w∈l-> -B<=g k w/\g k w<=B)-> -(l.length*B)<=pO g i l/\pO g i l<=l.length*B
 |[],i,_=>by simp[pO]
 |x::r,i,h=>by
  have h1:=h i x YV;have h2:=aq7 g B (l:=r) (i:=i+1) (λk w hw=>h k w (aeg _ hw));rw[pO,ahN,anM,aky];simp only[Int.natCast_one,age];omega
theorem aoT(g:Nat->Int->Int){l:List Int}{j:Nat}(hj:j<=64)(h:∀k w,w∈l-> -1099511627776<=g k w/\g k w<=1099511627776): -70368744177664<=pO g 0 (l.take j)/\pO g 0 (l.take j)<=70368744177664:=by
 have:=aq7 g 1099511627776 (l:=l.take j) (i:=0) (λk w hw=>h k w (ams hw));rw[aek]at this;have e:((min j l.length:Nat):Int)<=64:=by omega
 omega
variable {sh:List (List Int)} {s t:List Int} {cnt o:Nat}
theorem acu{n:ak}(h:gN n sh s t cnt)(hk:n.ai=3)(ho:o<cnt):o*(au t).toNat+(au t).toNat<=n.data.xs.length:=by
 have hsh:=h.node.az;have hc:=h.cnt;obtain⟨hf,hgp⟩:=h.first (.inl hk)
 obtain⟨b1,b2⟩:=(dJ h.node.form).aQ hk;unfold bP at hsh;rw[if_neg aa,if_pos hk,hf]at hsh;split at hsh
 ·rename_i hdl;rw[Option.some.injEq]at hsh;have he1:au [(n.aQ.xs.length:Int)]=n.aQ.xs.length:=by
   unfold au;rw[if_neg aI];simp only[dX];rw[if_neg aa];omega
  rw[<-hsh,he1]at hc;obtain⟨size,hsz⟩:∃size:Nat,au t=size:=⟨(au t).toNat,by omega⟩;have ad8:n.data.xs.length=n.aQ.xs.length*size:=by
   rw[hsz,<-akv]at hdl;exact Int.ofNat.inj hdl
  rw[hsz,ahh];have:(o+1)*size<=n.aQ.xs.length*size:=aj4 _ aa;rw[Nat.add_mul,Nat.one_mul]at this;omega
 ·cases hsh
theorem ahF{n:ak}(h:gN n sh s t cnt)(ho:o<cnt):(qZ n t o).length=(au t).toNat:=by
 unfold qZ;split
 ·rename_i hk;have:=acu h hk ho;rw[aek,aml];omega
 ·rw[Iy,aiS]
theorem arT{n:ak}{t:ax}(h:gN n sh s t.xs cnt)(hl:eF n)(o:Nat):∀x∈qZ n t.xs o,fJ x:=by
 obtain⟨nd,nb,_,_,_⟩:=Gp h.node.near;intro x hx;unfold qZ at hx;split at hx
 ·exact nd x (anW (ams hx))
 ·rename_i hk3;refine aqa _ _ (λy hy=>by rw[(anB.1 hy).2];exact⟨by decide,by decide⟩) (λu hu=> ?_) x hx;unfold dZ at hu;rw[if_neg hk3]at hu;split at hu
  ·exact aqA nd rfl u hu
  ·exact aqp rfl u hu
theorem ao7{n:ak}(nb:∀x∈n.aQ.xs,fJ x)(cnt o:Nat):fJ (dV n cnt o):=by
 unfold dV;split
 ·exact iY nb _
 ·split
  ·exact iY nb _
  ·exact⟨by decide,by decide⟩
variable {tl:List Int} {x:ahA}
theorem aa_.row{n:ak}(h:aa_ n tl cnt x)(ho:o<x.rows.l.length):x.rows.l.length=cnt/\x.rows.l[o].xs=qZ n tl o/\x.aQ.xs.length=cnt/\x.aQ.xs.getD o 0=dV n cnt o:=by
 have h1:x.rows.l.length=cnt:=by
  have:=congrArg List.length h.rows;simpa[TW]using this
 have h2:(x.rows.l.map ax.xs)[o]? =((List.range cnt).map (qZ n tl))[o]? :=by rw[h.rows];rfl
 rw[ab5,YL ho,ab5,am7 aa]at h2;have h3:x.aQ.xs.length=cnt:=by rw[h.aQ];simp[Tx]
 refine⟨h1,by simpa using h2,h3,?_⟩;rw[h.aQ,Tx,TR,ab5,am7 aa];rfl
theorem aa_.count{n:ak}(h:aa_ n tl cnt x):x.rows.l.length=cnt:=by
 have:=congrArg List.length h.rows;simpa[TW]using this
variable {w':World} {R:Nat->Prop} {N:Nat}
theorem aa_.ap9{n:ak}(h:aa_ n tl cnt x){w:World}(hno:n.ok w')(hD:((aoB x).past N).holds R w'):∀u∈x.rows.l,u.ok w':=λu hu=>by
 cases hx:x.own with
 |true=>exact dw (h.bF u hu) ((hD.2 hx).1 u hu)
 |false=>exact(h.old hx).2 w' hno.data u hu
theorem aa_.ap7{n:ak}(h:aa_ n tl cnt x){w:World}(hno:n.ok w')(hD:((aoB x).past N).holds R w'):x.aQ.ok w':=by
 cases hx:x.own with
 |true=>exact dw h.al0 (hD.2 hx).2
 |false=>rw[(h.old hx).1];exact hno.aQ
end
section
theorem Sq{vals known:List (List Int)}{x:List Int}(h:vals.take (known++[x]).length=known++[x]):vals.take known.length=known/\vals.getD known.length []=x:=by
 rw[adx,ag_]at h;have h1:(vals.take (known.length+1)).take known.length=known:=by rw[h];simp
 rw[List.take_take,ajY (amN _)]at h1;refine⟨h1,?_⟩;have h2:(vals.take (known.length+1))[known.length]? =some x:=by rw[h];simp
 rw[al2,if_pos (amD _)]at h2;rw[TR,h2];rfl
theorem W9{sh:List (List Int)}:∀{l:List ak} {known inp vals:List (List Int)},d9 sh l known inp=(0,vals)->vals.take known.length=known/\∀i n,l[i]? =some n->n.ai≠1->vals.getD (known.length+i) []=gy sh n (vals.take (known.length+i))
 |[],known,inp,vals,h=>by
  unfold d9 at h;split at h
  ·simp at h
  ·obtain rfl:known=vals:=(Prod.mk.inj h).2;exact⟨aen (Tw _),λi n hn=>by simp at hn⟩
 |m::r,known,inp,vals,h=>by
  have step:∀(x:List Int) (agB:List (List Int)),(m.ai≠1->x=gy sh m known)->d9 sh r (known++[x]) agB=(0,vals)->vals.take known.length=known/\∀i n,(m::r)[i]? =some n->n.ai≠1->vals.getD (known.length+i) []=gy sh n (vals.take (known.length+i)):=λx agB hx h'=>by
   obtain⟨a1,a2⟩:=W9 h';obtain⟨b1,b2⟩:=Sq a1;refine⟨b1,λi n hn hk=> ?_⟩;cases i with
   |zero=>
    obtain rfl:m=n:=by simpa using hn
    rw[amr,b2,b1,hx hk]
   |succ i=>
    have:=a2 i n (by simpa using hn) hk;rw[adx,ag_,show known.length+1+i=known.length+(i+1) by omega]at this;exact this
  unfold d9 at h;split at h
  ·exact step _ _ (λ_=>rfl) h
  ·rename_i hk;cases inp with
   |nil=>simp at h
   |cons x xs=>
    simp only at h;split at h
    ·simp at h
    ·exact step x xs (λg=>absurd g hk) h
variable {sh:List (List Int)} {s t:List Int} {cnt o:Nat}
theorem ail{n:ak}(h:gN n sh s t cnt)(hl:eF n)(ho:o<cnt):Bu n t o=qZ n t o:=by
 have hk9:n.ai≠9:=by unfold eF at hl;omega
 have hml:=ahF h ho;apply alQ
 ·rw[oz,hml]
 ·intro k h1 h2;rw[oz]at h1;have hw:=ZM h hl (o:=o) (i:=k) aa;rw[TR,YL h2]at hw;simp only[Bu,anm,am3,if_neg hk9];exact hw.symm
theorem Wi(av:List Int)(o:Nat):∀m:Nat,pO (Lm av) 0 ((List.range m).map λ(i:Nat)=>Q9 o i)=if o<m then av.getD o 0 else 0
 |0=>by simp[pO]
 |m+1=>by
  rw[ait,afn,CU,Wi av o m];simp only[afY,aiK,pO,aas,amj,aiD,Lm,Q9];have key:∀x y:Int,((if(o:Int)=m then(1:Int)else 0)*x+0)=(if o=m then x else 0):=λx _=>by
   by_cases e:o=m
   ·rw[if_pos aa,if_pos e];omega
   ·rw[if_neg aa,if_neg e];omega
  rw[key _ 0];by_cases e:o=m
  ·subst e;rw[if_neg (Nat.lt_irrefl _),if_pos rfl,if_pos (amD _)];omega
  ·rw[if_neg e];by_cases e2:o<m
   ·rw[if_pos e2,if_pos aa];omega
   ·rw[if_neg e2,if_neg aa];omega
theorem aeL{n:ak}(h:gN n sh s t cnt)(hk:eF n\/n.ai=9)(h9:n.ai=9->(au t).toNat=cnt)(a b:List Int)(ho:o<cnt):dV n cnt o+pO (Lm a) 0 (Bu n t o)=(gH n cnt t a b).getD o 0:=by
 by_cases hl:eF n
 ·rw[ail h hl ho,ah3 h hl ho _ (adM a),gH,if_pos hl,jh,TR,ab5,am7 ho];show _=(dZ n t o).foldl (FP a) (dV n cnt o);rw[Rq]
 ·have hk9:n.ai=9:=hk.resolve_left hl;have hb:dV n cnt o=0:=by unfold dV;rw[if_neg aa,if_neg aa]
  have hr:Bu n t o=(List.range cnt).map λ(i:Nat)=>Q9 o i:=by
   unfold Bu;rw[h9 hk9];apply anA;intro i _;rw[if_pos hk9]
  rw[KP hl,hb,hr,Wi,if_pos ho];have e:((List.range cnt).map (gu n a b)).getD o 0=gu n a b o:=by rw[TR,ab5,am7 ho];rfl
  rw[e];unfold gu;rw[if_neg aa,if_neg aa,if_neg aa,if_neg aa];omega
end
def d_(c:fT)(n:ak)(i:Nat)(s:dL)(vl:List Int):dL×Int:=
 if n.ai=1 then kN s n.lo n.hi (c.di.l.getD i cK).xs
 else if n.ai=2 then bI (bH c.aA s (c.di.l.getD i cK).xs (λe=>n.data.xs.getD e 0)).1 2 0 0 (bH c.aA s (c.di.l.getD i cK).xs (λe=>n.data.xs.getD e 0)).2
 else if n.ai=6 then bI s 3 (vl.getD n.a.toNat 0) (vl.getD n.b.toNat 0) 0
 else if n.ai=7 then bI (bH c.aA s (c.di.l.getD i cK).xs (λ_=>n.data.xs.getD 0 0)).1 5 (vl.getD n.a.toNat 0) 0 (bH c.aA s (c.di.l.getD i cK).xs (λ_=>n.data.xs.getD 0 0)).2
 else if n.ai=8 then rM c.aA s (vl.getD n.a.toNat 0) n.data.xs (c.di.l.getD i cK).xs
 else if n.ai=9/\(c.di.l.getD n.a.toNat cK).xs=(c.di.l.getD i cK).xs then(s,vl.getD n.a.toNat 0)
 else ku c.aA c.giant s (vl.getD n.a.toNat 0) (pu (n0 n) (c.shapes.l.getD n.a.toNat cK)).1 (c.di.l.getD n.a.toNat cK).xs (c.di.l.getD i cK).xs
def gU(c:fT):List ak->Nat->dL->List Int->Option (dL×List Int)
 |[],_,s,vl=>some (s,vl)
 |n::r,i,s,vl=>if 2048<(d_ c n i s vl).1.code.length then none else gU c r (i+1) (d_ c n i s vl).1 (vl++[(d_ c n i s vl).2])
def lowerT(c:fT)(g:bM):Option (dL×List Int)->yx×Int
 |none=>(Ca,6)
 |some q=>(⟨c.aA,q.1,q.2.getD g.out.toNat 0,(c.di.l.getD g.out.toNat cK).xs⟩,0)
def uW(c:fT)(g:bM):yx×Int:=lowerT c g (gU c g.l 0 ⟨[],[],[]⟩ [])
def iw(aV aA:Int):List (List Int)->List (List Int)->List (List Int)×Int
 |[],acc=>(acc,0)
 |x::r,acc=>if(gM x aV aA).2≠0 then([],(gM x aV aA).2)else iw aV aA r (acc++[(gM x aV aA).1])
theorem dz.power(n:Nat)(s:dL)(x:Int)(data sl:List Int):dz 8 s (rM n s x data sl).1:=by
 have pl:∀(s:dL) (f:Nat->Int) (op a b:Int),dz 1 s (bI (bH n s sl f).1 op a b (bH n s sl f).2).1:=λs f op a b=>dz.plain s _ _ _ _ _;obtain⟨y,hy⟩:∃y:dL×Option Int,y=(if data.getD 2 0=0 then(s,none)else if data.getD 2 0=1 then((bI s 6 x x 0).1,some (bI s 6 x x 0).2)else((bI (bH n (bI s 6 x x 0).1 sl (λ_=>data.getD 2 0)).1 5 (bI s 6 x x 0).2 0 (bH n (bI s 6 x x 0).1 sl (λ_=>data.getD 2 0)).2).1,some (bI (bH n (bI s 6 x x 0).1 sl (λ_=>data.getD 2 0)).1 5 (bI s 6 x x 0).2 0 (bH n (bI s 6 x x 0).1 sl (λ_=>data.getD 2 0)).2).2)):=⟨_,rfl⟩;have g1:dz 2 s y.1:=by
  rw[hy];split
  ·exact(dz.refl s).mono (aae _)
  ·split
   ·exact(dz.lay _ _ _ _ _).mono ay
   ·exact(dz.lay _ _ _ _ _).trans (pl _ _ _ _ _)
 obtain⟨z,hz⟩:∃z:dL×Option Int,z=(if data.getD 1 0=0 then y else if data.getD 1 0=1 then((iU y.1 y.2 x).1,some (iU y.1 y.2 x).2)else((iU (bI (bH n y.1 sl (λ_=>data.getD 1 0)).1 5 x 0 (bH n y.1 sl (λ_=>data.getD 1 0)).2).1 y.2 (bI (bH n y.1 sl (λ_=>data.getD 1 0)).1 5 x 0 (bH n y.1 sl (λ_=>data.getD 1 0)).2).2).1,some (iU (bI (bH n y.1 sl (λ_=>data.getD 1 0)).1 5 x 0 (bH n y.1 sl (λ_=>data.getD 1 0)).2).1 y.2 (bI (bH n y.1 sl (λ_=>data.getD 1 0)).1 5 x 0 (bH n y.1 sl (λ_=>data.getD 1 0)).2).2).2)):=⟨_,rfl⟩;have g2:dz 2 y.1 z.1:=by
  rw[hz];split
  ·exact(dz.refl _).mono (aae _)
  ·split
   ·exact(dz.add _ _ _).mono ay
   ·exact(pl _ _ _ _ _).trans (dz.add _ _ _)
 obtain⟨o,ho⟩:∃o:dL×Int,o=(match z.2 with|none=>vB n z.1 x|some m=>(z.1,m)):=⟨_,rfl⟩;have g3:dz 1 z.1 o.1:=by
  rw[ho];split
  ·exact dz.plain _ _ _ _ _ _
  ·exact(dz.refl _).mono (aae _)
 have e:rM n s x data sl=(if data.getD 0 0=0 then o else bI (bH n o.1 sl (λ_=>data.getD 0 0)).1 4 o.2 0 (bH n o.1 sl (λ_=>data.getD 0 0)).2):=by
  rw[ho,hz,hy];rfl
 rw[e];split
 ·exact((g1.trans g2).trans g3).mono ay
 ·exact(((g1.trans g2).trans g3).trans (pl _ _ _ _ _)).mono ay
theorem dz.input(s:dL)(lo hi:Int)(sl:List Int):dz 1 s (kN s lo hi sl).1:=by
 have e:(kN s lo hi sl).1.code.length=s.code.length+1:=by simp[kN,bI]
 exact⟨by omega,by omega,by rw[e];show s.aF.length+_<=_;omega,by rw[e];show(s.inputs++_).length+_<=_;rw[adx,ag_];omega⟩
theorem adY(rows:List (List Int))(fr to:List Int)(n:Nat):(vk rows fr to n).1.length<=n:=by
 by_cases hd:Bd rows fr to n
 ·exact amL (Hg hd)
 ·rw[vk,if_neg hd];exact aae _
theorem dz.ae8(n:Nat)(b:Bool)(s:dL)(x:Int)(r:List (List Int)×List Int)(fr to:List Int)(hn:1<=n):dz (5*n+2) s (ku n b s x r fr to).1:=by
 have h:=dz.rows n b s x (vk r.1 fr to n).1 hn (adY _ _ _ _);unfold ku;dsimp only;split
 ·exact h.trans (dz.plain _ _ _ _ _ _)
 ·exact h.mono aa
theorem dz.node(c:fT)(n:ak)(i:Nat)(s:dL)(vl:List Int)(hn:1<=c.aA):dz (5*c.aA+8) s (d_ c n i s vl).1:=by
 unfold d_;repeat' split
 ·exact(dz.input _ _ _ _).mono aa
 ·exact(dz.plain _ _ _ _ _ _).mono aa
 ·exact(dz.lay _ _ _ _ _).mono aa
 ·exact(dz.plain _ _ _ _ _ _).mono aa
 ·exact(dz.power _ _ _ _ _).mono aa
 ·exact(dz.refl _).mono (aae _)
 ·exact(dz.ae8 _ _ _ _ _ _ _ hn).mono aa
def ww(k:Int):FuncId:=if k=1 then 27 else if k=2 then 28 else if k=6 then 29 else if k=7 then 30 else if k=8 then 31 else 26
theorem ach(k:Int):(k=1/\ww k=27)\/(k=2/\ww k=28)\/(k=6/\ww k=29)\/(k=7/\ww k=30)\/(k=8/\ww k=31)\/((k≠1/\k≠2/\k≠6/\k≠7/\k≠8)/\ww k=26):=by
 by_cases h1:k=1
 ·subst h1;exact .inl ⟨rfl,rfl⟩
 by_cases h2:k=2
 ·subst h2;exact .inr (.inl ⟨rfl,rfl⟩)
 by_cases h3:k=6
 ·subst h3;exact .inr (.inr (.inl ⟨rfl,rfl⟩))
 by_cases h4:k=7
 ·subst h4;exact .inr (.inr (.inr (.inl ⟨rfl,rfl⟩)))
 by_cases h5:k=8
 ·subst h5;exact .inr (.inr (.inr (.inr (.inl ⟨rfl,rfl⟩))))
 ·exact .inr (.inr (.inr (.inr (.inr ⟨⟨h1,h2,h3,h4,h5⟩,by unfold ww;rw[if_neg h1,if_neg h2,if_neg h3,if_neg h4,if_neg h5]⟩))))
def Hu(c:fT)(n:ak)(i:Nat)(f:FuncId):Prop:=∀(s:fu) (vl:List Int) (w:World) (ρ:Nat->SX.Loc) (F:Nat->Prop),wT c s vl->vl.length=i->qF w ρ F 2 5 (kG c s vl) (TF c s n)->
 Calls Tryz.prog f (SV.dW ρ [.lp 0 0 0 0,.agg (vo n),aC i]).toArray w (pz w ρ F c s vl (d_ c n i s.pl vl))
end Go.Proofs.YtgndjjdeopfdkaaGreat
