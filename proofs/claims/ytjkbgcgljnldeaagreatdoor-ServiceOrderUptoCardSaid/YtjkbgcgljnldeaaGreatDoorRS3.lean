/- Part of a proof; own work. -/
import Derived.Test.YtjkbgcgljnldeaaGreatDoorRS2
set_option linter.unusedVariables false
set_option linter.unusedSimpArgs false
namespace Go.bc
open Go
def iU (P:Program) (op:bj) (env:Env) (c:a1) (S fK:I→a1→Prop):Prop:=
  ∀H0 s bb H (K Rp:I→aA→Prop),gK s env bb→eW H0 s c H→(∀bM v bT c1 aF,bt.et s bM→S v c1→aN bM v bT→eW H0 bM c1 aF→K bT aF)→(∀bM v bT c1 aF,bt.et s bM→fK v c1→aN bM v bT→eW H0 bM c1 aF→Rp bT aF)→ie P op bb H K Rp
section
variable {P:Program}{aL:List bk}{cD t0:Nat}{k:List ga}{Q:Out→a1→Prop}{env:Env}{c c1:a1}{v r:I}{anns:List I}{l:List bP}{K:Env→a1→Prop}{Rp:I→a1→Prop}{d:Option Nat}{g:Option (Nat×Bool)}{op:bj}{f:FuncId}{args:List aK}{az cap:List I}{x:aK}
theorem ae.nil (h:K env c):ae P [] [] env c K Rp:=fun H0 s bb H K' iW he ag dv hO=>by
  exact dv s env bb c H (bt.et.refl s) h he ag
theorem ae.vQ {S:I→a1→Prop}(hw:wanted ⟨d,g,op⟩ env=some true) (hp:lG op=false) (ai:iU P op env c S Rp) (h: ∀v c1,S v c1→ae P anns l (env.put d v) c1 K Rp):ae P anns (⟨d,g,op⟩::l) env c K Rp:=fun H0 s bb H K' iW he ag dv hO=>by
  have q:bf P (⟨d,g,op⟩::eP l anns) bb H K' iW:=bf.step (zW he hw) (ai H0 s bb H _ _ he ag (fun bM v bT c1 aF fN a2 a3 a4=>h v c1 a2 H0 bM _ aF K' iW ((he.mono fN).put a3 d) a4 (fun s2 e cC c2 dk eB dU jj kD=>dv s2 e cC c2 dk (fN.trans eB) dU jj kD) (fun s2 e cC c2 dk eB dU jj kD=>hO s2 e cC c2 dk (fN.trans eB) dU jj kD)) hO)
  cases op<;>first|(simp [lG]at hp; done)|(cases anns<;>simpa only[eP] using q)
abbrev MY:pr:=fun _ _ _=>none
abbrev eM (op:bj) (env:Env) (c:a1):Option (I×a1):=mW [] MY op env c
theorem iU.o (h:eM op env c=some (v,c1)):iU P op env c (fun bT cB=>bT=v∧cB=c1) Rp:=fun H0 s bb H K Rp he ag dv hO=>
  Wy (cvs:=[]) (cl:=MY) (fun _ _ _ _ _ h=>by cases h) (fun _ h=>by simp at h) he ag h fun bM bT aF cI c8 ep=>dv bM v bT c1 aF cI ⟨rfl,rfl⟩ c8 ep
theorem ae.o (hw:wanted ⟨d,g,op⟩ env=some true) (hp:lG op=false) (ap:eM op env c=some (v,c1)) (h:ae P anns l (env.put d v) c1 K Rp):ae P anns (⟨d,g,op⟩::l) env c K Rp:=
  ae.vQ hw hp (iU.o ap) fun bT cB ⟨ar,ax⟩=>by rw[ar,ax]; exact h
theorem ae.hV (hw:wanted ⟨d,g,op⟩ env=some false) (hp:lG op=false) (h:ae P anns l (env.put d .undef) c K Rp):ae P anns (⟨d,g,op⟩::l) env c K Rp:=fun H0 s bb H K' iW he ag dv hO=>by
  have q:bf P (⟨d,g,op⟩::eP l anns) bb H K' iW:=bf.skip (zW he hw) (h H0 s _ H K' iW (he.put (by simp only[aN]) d) ag dv hO)
  cases op<;>first|(simp [lG]at hp; done)|(cases anns<;>simpa only[eP] using q)
theorem ae.RT (hw:wanted ⟨d,g,op⟩ env=some false) (hp:lG op=true) (h:ae P anns l (env.put d .undef) c K Rp):ae P (r::anns) (⟨d,g,op⟩::l) env c K Rp:=fun H0 s bb H K' iW he ag dv hO=>by
  have Ey:=zW he hw
  have q:=h H0 s (bb.put d I.undef) H K' iW (he.put (by simp only[aN]) d) ag dv hO
  cases op<;>first|(simp [lG]at hp; done)|(simp only[eP]; exact bf.skip Ey q)
theorem Tf {g g':Option (Nat×Bool)}{H0 H:aA}{bb:Env}{GV:Env→aA→Prop}{G0:I→aA→Prop}(h: ∀i,wanted ⟨d,g,i⟩ bb=wanted ⟨d,g',i⟩ bb) (k:bf P (eP (⟨d,g',op⟩::l) anns) bb H GV G0):bf P (eP (⟨d,g,op⟩::l) anns) bb H GV G0:=by
  cases op<;>cases anns<;>simp only[eP,bf]at k ⊢ <;>rw[h]<;>exact k
theorem ae.wV {j:Nat}{t b:Bool}(hb:env.get j= .bool b) (aO:b=t) (h:ae P anns (⟨d,none,op⟩::l) env c K Rp):ae P anns (⟨d,some (j,t),op⟩::l) env c K Rp:=fun H0 s bb H K' iW he ag dv hO=>by
  subst aO
  refine Tf (H0:=H0) (g':=none) (fun i=> ?_) (h H0 s bb H K' iW he ag dv hO)
  have:=he j
  rw[hb]at this
  simp only[aN]at this
  simp only[wanted,this,beq_self_eq_true]
theorem ae.np (hw:wanted ⟨d,g,.hz f args⟩ env=some true) (J:Pure P f az r) (aP:jU (args.map (bp env))=az) (aW:b3 az=true) (ag:r.flat=true) (h:ae P anns l (env.put d r) c K Rp):ae P (r::anns) (⟨d,g,.hz f args⟩::l) env c K Rp:=fun H0 s bb H K' iW he bh dv hO=>by
  subst aP
  simp only[eP]
  exact bf.step (zW he hw) (.ia (.cT r) (.o7 (CI _ _ (mU he args) aW) J) fun _ _=>h H0 s _ H K' iW (he.put ((I.lC r ag r).2 rfl) d) bh dv hO)
theorem ae.aq2 (hw:wanted ⟨d,g,.jq x args⟩ env=some true) (ab:bp env x= .fn f cap) (ah:c9 P f=true) (J:Pure P f az r) (aP:jU (args.map (bp env)++cap)=az) (aW:b3 az=true) (ag:r.flat=true) (h:ae P anns l (env.put d r) c K Rp):ae P (r::anns) (⟨d,g,.jq x args⟩::l) env c K Rp:=fun H0 s bb H K' iW he bh dv hO=>by
  subst aP
  have hQ:=dW he ab
  simp only[aN]at hQ
  obtain⟨MF,g1,g2⟩:=hQ
  simp only[eP]
  exact bf.step (zW he hw) (.ia (.cT r) (.o8 g1 ah (CI _ _ ((mU he args).append g2) aW) J) fun _ _=>h H0 s _ H K' iW (he.put ((I.lC r ag r).2 rfl) d) bh dv hO)
theorem BS {K Rp:I→aA→Prop}{s:bt}{H0:aA}(dv: ∀bM v bT c1 aF,bt.et s bM→Q (.ret v) c1→aN bM v bT→eW H0 bM c1 aF→K bT aF) (hO: ∀bM v bT c1 aF,bt.et s bM→Q (.eR v) c1→aN bM v bT→eW H0 bM c1 aF→Rp bT aF): ∀gP aF,(∃bM o c1,bt.et s bM∧Q o c1∧mQ bM o gP∧eW H0 bM c1 aF)→yi K Rp aF gP:=by
  rintro gP aF ⟨bM,o,c1,fN,a2,a3,a4⟩
  cases o<;>cases gP<;>simp only[mQ]at a3
  ·exact dv bM _ _ c1 aF fN a2 a3 a4
  ·exact hO bM _ _ c1 aF fN a2 a3 a4
theorem iU.call (h:bz P f (args.map (bp env)) c Q):iU P (.call f args) env c (fun v c1=>Q (.ret v) c1) (fun v c1=>Q (.eR v) c1):=fun H0 s bb H K Rp he ag dv hO=>
  .call _ (e7.tl _) (h H0 s _ H (mU he args) ag) (BS dv hO)
theorem iU.fw (ab:bp env x= .fn f cap) (ah:c9 P f=true) (h:bz P f (args.map (bp env)++cap) c Q):iU P (.fw x args) env c (fun v c1=>Q (.ret v) c1) (fun v c1=>Q (.eR v) c1):=fun H0 s bb H K Rp he ag dv hO=>by
  have hQ:=dW he ab
  simp only[aN]at hQ
  obtain⟨MF,g1,g2⟩:=hQ
  exact .fw _ g1 ah (e7.tl _) (h H0 s _ H ((mU he args).append g2) ag) (BS dv hO)
theorem iU.sJ (ab:bp env x= .fn (f+hW) cap) (ah:c9 P f=true) (h:bz P f (cap++args.map (bp env)) c Q):iU P (.fw x args) env c (fun v c1=>Q (.ret v) c1) (fun v c1=>Q (.eR v) c1):=fun H0 s bb H K Rp he ag dv hO=>by
  have hQ:=dW he ab
  simp only[aN]at hQ
  obtain⟨MF,g1,g2⟩:=hQ
  exact .sJ _ g1 ah (e7.tl _) (h H0 s _ H (g2.append (mU he args)) ag) (BS dv hO)
theorem iU.panic {t:TypeId}(ab:bp env x= .gW t v):iU P (.panic x) env c (fun _ _=>False) (fun bT cB=>bT= .gW t v∧cB=c):=fun H0 s bb H K Rp he ag dv hO=>by
  have hQ:=dW he ab
  have qL:=hQ
  simp only[aN]at hQ
  obtain⟨y,g1,g2⟩:=hQ
  rw[g1]at qL
  exact .panic g1 (hO s _ _ c H (bt.et.refl s) ⟨rfl,rfl⟩ qL ag)
theorem iU.mono {S G5 fK G7:I→a1→Prop}(h:iU P op env c S fK) (J: ∀v c1,S v c1→G5 v c1) (aa: ∀v c1,fK v c1→G7 v c1):iU P op env c G5 G7:=fun H0 s bb H K Rp he ag dv hO=>
  h H0 s bb H K Rp he ag (fun bM v bT c1 aF fN a2 a3 a4=>dv bM v bT c1 aF fN (J _ _ a2) a3 a4) (fun bM v bT c1 aF fN a2 a3 a4=>hO bM v bT c1 aF fN (aa _ _ a2) a3 a4)
theorem ae.Dl (hw:wanted ⟨d,g,.call f args⟩ env=some true) (ah:bz P f az c Q) (aP:args.map (bp env)=az) (h: ∀v c1,Q (.ret v) c1→ae P anns l (env.put d v) c1 K Rp) (hp: ∀v c1,Q (.eR v) c1→Rp v c1):ae P anns (⟨d,g,.call f args⟩::l) env c K Rp:=by
  subst aP
  exact ae.vQ hw rfl ((iU.call ah).mono (fun _ _ h=>h) hp) h
theorem ae.wI (hw:wanted ⟨d,g,.call f args⟩ env=some true) (ah:bz P f az c (nw v c1)) (aP:args.map (bp env)=az) (h:ae P anns l (env.put d v) c1 K Rp):ae P anns (⟨d,g,.call f args⟩::l) env c K Rp:=
  ae.Dl hw ah aP (fun bT cB ⟨ar,ax⟩=>by cases ar; rw[ax]; exact h) (fun bT cB ⟨ar,ax⟩=>by cases ar)
theorem ae.aL8 (hw:wanted ⟨d,g,.fw x args⟩ env=some true) (ab:bp env x= .fn f cap) (aW:c9 P f=true) (ah:bz P f az c Q) (aP:args.map (bp env)++cap=az) (h: ∀v c1,Q (.ret v) c1→ae P anns l (env.put d v) c1 K Rp) (hp: ∀v c1,Q (.eR v) c1→Rp v c1):ae P anns (⟨d,g,.fw x args⟩::l) env c K Rp:=by
  subst aP
  exact ae.vQ hw rfl ((iU.fw ab aW ah).mono (fun _ _ h=>h) hp) h
theorem ae.SB (hw:wanted ⟨d,g,.fw x args⟩ env=some true) (ab:bp env x= .fn f cap) (aW:c9 P f=true) (ah:bz P f az c (nw v c1)) (aP:args.map (bp env)++cap=az) (h:ae P anns l (env.put d v) c1 K Rp):ae P anns (⟨d,g,.fw x args⟩::l) env c K Rp:=
  ae.aL8 hw ab aW ah aP (fun bT cB ⟨ar,ax⟩=>by cases ar; rw[ax]; exact h) (fun bT cB ⟨ar,ax⟩=>by cases ar)
theorem ae.TM (hw:wanted ⟨d,g,.fw x args⟩ env=some true) (ab:bp env x= .fn (f+hW) cap) (aW:c9 P f=true) (ah:bz P f az c Q) (aP:cap++args.map (bp env)=az) (h: ∀v c1,Q (.ret v) c1→ae P anns l (env.put d v) c1 K Rp) (hp: ∀v c1,Q (.eR v) c1→Rp v c1):ae P anns (⟨d,g,.fw x args⟩::l) env c K Rp:=by
  subst aP
  exact ae.vQ hw rfl ((iU.sJ ab aW ah).mono (fun _ _ h=>h) hp) h
theorem ae.TN (hw:wanted ⟨d,g,.fw x args⟩ env=some true) (ab:bp env x= .fn (f+hW) cap) (aW:c9 P f=true) (ah:bz P f az c (nw v c1)) (aP:cap++args.map (bp env)=az) (h:ae P anns l (env.put d v) c1 K Rp):ae P anns (⟨d,g,.fw x args⟩::l) env c K Rp:=
  ae.TM hw ab aW ah aP (fun bT cB ⟨ar,ax⟩=>by cases ar; rw[ax]; exact h) (fun bT cB ⟨ar,ax⟩=>by cases ar)
theorem ae.aq8 {t:TypeId}(hw:wanted ⟨d,g,.panic x⟩ env=some true) (ab:bp env x= .gW t v) (h:Rp (.gW t v) c):ae P anns (⟨d,g,.panic x⟩::l) env c K Rp:=
  ae.vQ hw rfl ((iU.panic ab).mono (fun _ _ h=>h) (fun bT cB ⟨ar,ax⟩=>by rw[ar,ax]; exact h)) fun _ _ h=>h.elim
theorem bz.mono {yk:Out→a1→Prop}(h:bz P f az c Q) (bG: ∀o c1,Q o c1→yk o c1):bz P f az c yk:=fun H0 s iu H aP ag=>
  (h H0 s iu H aP ag).mono fun o aF ⟨bM,gQ,c1,fN,a2,a3,a4⟩=>⟨o,aF,by cases o<;>exact eI.refl _,HSub.refl _,bM,gQ,c1,fN,bG _ _ a2,a3,a4⟩
theorem bz.intro {fn:Func}{e:bu}(hm:P.follows .mixedOrders=true) (aW:P.funcs[f]? =some fn) (ah:bY P fn az.length e aL=true) (h:aj P aL c.b7 c.bF [.c e] Q (mw az) c):bz P f az c Q:=fun H0 s iu H aP ag=>by
  have aH:=bs.length aP
  exact Hd hm aW (by rw[aH]; exact ah) (h H0 s s (mw iu) H _ ag.b7.symm ag.bF.symm (bt.et.refl s) (ab4 aP) ag fun bM o gP c1 aF cI c8 ep gw=>⟨bM,o,c1,cI,c8,ep,gw⟩)
theorem bz.NK (h:Pure P f az r) (aW:b3 az=true) (ag:r.flat=true){dz:List I}(aP:jU dz=az):bz P f dz c (nw r c):=fun H0 s iu H Yx bh=>by
  subst aP
  have hp:=h H
  have y4:jr P f iu H fun o aF=>o= .ret r∧aF=H:=fun m ay eD bo af=>hp m ay eD bo ((CI _ _ Yx aW).RL af)
  exact y4.mono fun o aF ⟨ar,ax⟩=>⟨o,aF,by subst ar; exact eI.refl _,HSub.refl _,s,.ret r,c,bt.et.refl s,⟨rfl,rfl⟩,by subst ar; exact (I.lC r ag r).2 rfl,by rw[ax]; exact bh⟩
theorem bz.pure (h:bz P f az .new Q) (aW:b3 az=true) (ag:r.flat=true) (bG: ∀o c1,Q o c1→∃v,o= .ret v∧v.av=r):Pure P f az r:=jr.pure fun H=>
  (h H ⟨[],[]⟩ az H ((nI az aW _).2 rfl) (eW.start H)).mono fun o aF ⟨bM,gQ,c1,fN,a2,a3,a4⟩=>by
    obtain⟨v,ar,ax⟩:=bG _ _ a2
    subst ar ax
    cases o with
    |eR w=>simp only[mQ]at a3
    |ret w=>exact⟨.ret w,aF,eI.refl _,HSub.refl _,w,rfl,fun m y aZ=>z1 v w a3 ag y aZ,a4.base⟩
end
end Go.bc
namespace Go.bc
open Go
mutual
def I.eF (p:bt):I→I
  | .ptr b o=> .ptr (p.b.getD b 0) o
  | .agg cs=> .agg (hB p cs)
  | .di cs=> .di (hB p cs)
  | .ay n rows=> .ay n rows
  | .own t n rows=> .own (p.t.getD t 0) n rows
  | .ez t v=> .ez (p.t.getD t 0) v
  | .mp t v k=> .mp (p.t.getD t 0) v k
  | .dO row o=> .dO row o
  | .fn f cap=> .fn f (hB p cap)
  | .gW t v=> .gW t (v.eF p)
  | .ew=> .ew
  | .bool b=> .bool b
  | .int k n=> .int k n
  | .str s=> .str s
  | .dQ v=> .dQ v
def hB (p:bt):List I→List I
  |[]=>[]
  |a::az=>a.eF p::hB p az
end
def bt.comp (p s:bt):bt:=⟨p.b.map fun b=>s.b.getD b 0,p.t.map fun t=>s.t.getD t 0⟩
structure bt.Sub (p s:bt):Prop where
  b: ∀(i x:Nat),p.b[i]? =some x→x<s.b.length
  t: ∀(i x:Nat),p.t[i]? =some x→x<s.t.length
theorem jF {l:List Nat}{i:Nat}(h:i<l.length):l[i]? =some (l.getD i 0):=by
  rw[List.getD_eq_getElem?_getD,List.getElem?_eq_getElem h]; rfl
theorem oi {l:List Nat}{i x:Nat}(h:l[i]? =some x):l.getD i 0=x:=by rw[List.getD_eq_getElem?_getD,h]; rfl
theorem Dk {p s:bt}{i y:Nat}(h:p.b[i]? =some y):(p.comp s).b[i]? =some (s.b.getD y 0):=by simp [bt.comp,h]
theorem ys {p s:bt}{i y:Nat}(h:p.t[i]? =some y):(p.comp s).t[i]? =some (s.t.getD y 0):=by simp [bt.comp,h]
theorem va {p s:bt}{i x:Nat}(h:(p.comp s).b[i]? =some x): ∃y,p.b[i]? =some y∧s.b.getD y 0=x:=by
  simp only[bt.comp,List.getElem?_map,Option.map_eq_some_iff]at h
  exact h
theorem sM {p s:bt}{i x:Nat}(h:(p.comp s).t[i]? =some x): ∃y,p.t[i]? =some y∧s.t.getD y 0=x:=by
  simp only[bt.comp,List.getElem?_map,Option.map_eq_some_iff]at h
  exact h
section
variable {p s:bt}
mutual
theorem aN.comp (hp:p.Sub s): ∀(a v:I),a.cR p.b.length p.t.length=true→aN s (a.eF p) v→aN (p.comp s) a v
  | .ew,_,_,_=>by simp only[I.eF,aN]
  | .ptr b o,_,hb,h=>by
    have hb:=mS hb
    simp only[I.eF,aN]at*
    obtain⟨x,J,aa⟩:=h
    exact⟨x,by rw[Dk (jF hb),oi J],aa⟩
  | .ez t v,_,hb,h=>by
    have hb:=mS hb
    simp only[I.eF,aN]at*
    obtain⟨x,J,aa⟩:=h
    exact⟨x,by rw[ys (jF hb),oi J],aa⟩
  | .mp t v k,_,hb,h=>by
    have hb:=mS hb
    simp only[I.eF,aN]at*
    obtain⟨x,J,aa⟩:=h
    exact⟨x,by rw[ys (jF hb),oi J],aa⟩
  | .agg cs,_,hb,h=>by simp only[I.cR]at hb; simp only[I.eF,aN]at*; obtain⟨l,J,aa⟩:=h; exact⟨l,J,bs.comp hp cs l hb aa⟩
  | .di cs,_,hb,h=>by simp only[I.cR]at hb; simp only[I.eF,aN]at*; obtain⟨l,J,aa⟩:=h; exact⟨l,J,bs.comp hp cs l hb aa⟩
  | .fn f cs,_,hb,h=>by simp only[I.cR]at hb; simp only[I.eF,aN]at*; obtain⟨l,J,aa⟩:=h; exact⟨l,J,bs.comp hp cs l hb aa⟩
  | .gW t a,_,hb,h=>by simp only[I.cR]at hb; simp only[I.eF,aN]at*; obtain⟨x,J,aa⟩:=h; exact⟨x,J,aN.comp hp a x hb aa⟩
  | .ay n rows,_,hb,h=>by simp only[I.cR]at hb; simp only[I.eF,aN]at*; obtain⟨l,J,aa⟩:=h; exact⟨l,J,ud hb aa⟩
  | .dO row o,_,hb,h=>by simp only[I.cR]at hb; simp only[I.eF,aN]at*; obtain⟨l,J,aa⟩:=h; exact⟨l,J,DM hb aa⟩
  | .own t n rows,_,hb,h=>by
    simp only[I.cR,Bool.and_eq_true]at hb
    have qF:=mS hb.1
    simp only[I.eF,aN]at*
    obtain⟨x,l,aw,J,aa⟩:=h
    exact⟨x,l,by rw[ys (jF qF),oi aw],J,ud hb.2 aa⟩
  | .bool _,_,_,h=>by simp only[I.eF,aN]at*; exact h
  | .int _ _,_,_,h=>by simp only[I.eF,aN]at*; exact h
  | .str _,_,_,h=>by simp only[I.eF,aN]at*; exact h
  | .dQ _,_,_,h=>by simp only[I.eF,aN]at*; exact h
theorem bs.comp (hp:p.Sub s): ∀(az l:List I),dr p.b.length p.t.length az=true→bs s (hB p az) l→bs (p.comp s) az l
  |[],_,_,h=>by simp only[hB,bs]at*; exact h
  |a::az,_,hb,h=>by simp only[dr,Bool.and_eq_true]at hb; simp only[hB,bs]at*; obtain⟨v,ay,J,aa,au⟩:=h; exact⟨v,ay,J,aN.comp hp a v hb.1 aa,bs.comp hp az ay hb.2 au⟩
end
mutual
theorem aN.split (hp:p.Sub s): ∀(a v:I),a.cR p.b.length p.t.length=true→aN (p.comp s) a v→aN s (a.eF p) v
  | .ew,_,_,_=>by simp only[I.eF,aN]
  | .ptr b o,_,hb,h=>by
    simp only[I.eF,aN]at*
    obtain⟨x,J,aa⟩:=h
    obtain⟨y,ar,ax⟩:=va J
    exact⟨x,by rw[oi ar,jF (hp.b _ _ ar),ax],aa⟩
  | .ez t v,_,hb,h=>by
    simp only[I.eF,aN]at*
    obtain⟨x,J,aa⟩:=h
    obtain⟨y,ar,ax⟩:=sM J
    exact⟨x,by rw[oi ar,jF (hp.t _ _ ar),ax],aa⟩
  | .mp t v k,_,hb,h=>by
    simp only[I.eF,aN]at*
    obtain⟨x,J,aa⟩:=h
    obtain⟨y,ar,ax⟩:=sM J
    exact⟨x,by rw[oi ar,jF (hp.t _ _ ar),ax],aa⟩
  | .agg cs,_,hb,h=>by simp only[I.cR]at hb; simp only[I.eF,aN]at*; obtain⟨l,J,aa⟩:=h; exact⟨l,J,bs.split hp cs l hb aa⟩
  | .di cs,_,hb,h=>by simp only[I.cR]at hb; simp only[I.eF,aN]at*; obtain⟨l,J,aa⟩:=h; exact⟨l,J,bs.split hp cs l hb aa⟩
  | .fn f cs,_,hb,h=>by simp only[I.cR]at hb; simp only[I.eF,aN]at*; obtain⟨l,J,aa⟩:=h; exact⟨l,J,bs.split hp cs l hb aa⟩
  | .gW t a,_,hb,h=>by simp only[I.cR]at hb; simp only[I.eF,aN]at*; obtain⟨x,J,aa⟩:=h; exact⟨x,J,aN.split hp a x hb aa⟩
  | .ay n rows,_,hb,h=>by simp only[I.cR]at hb; simp only[I.eF,aN]at*; obtain⟨l,J,aa⟩:=h; exact⟨l,J,ud hb aa⟩
  | .dO row o,_,hb,h=>by simp only[I.cR]at hb; simp only[I.eF,aN]at*; obtain⟨l,J,aa⟩:=h; exact⟨l,J,DM hb aa⟩
  | .own t n rows,_,hb,h=>by
    simp only[I.cR,Bool.and_eq_true]at hb
    simp only[I.eF,aN]at*
    obtain⟨x,l,aw,J,aa⟩:=h
    obtain⟨y,ar,ax⟩:=sM aw
    exact⟨x,l,by rw[oi ar,jF (hp.t _ _ ar),ax],J,ud hb.2 aa⟩
  | .bool _,_,_,h=>by simp only[I.eF,aN]at*; exact h
  | .int _ _,_,_,h=>by simp only[I.eF,aN]at*; exact h
  | .str _,_,_,h=>by simp only[I.eF,aN]at*; exact h
  | .dQ _,_,_,h=>by simp only[I.eF,aN]at*; exact h
theorem bs.split (hp:p.Sub s): ∀(az l:List I),dr p.b.length p.t.length az=true→bs (p.comp s) az l→bs s (hB p az) l
  |[],_,_,h=>by simp only[hB,bs]at*; exact h
  |a::az,_,hb,h=>by simp only[dr,Bool.and_eq_true]at hb; simp only[hB,bs]at*; obtain⟨v,ay,J,aa,au⟩:=h; exact⟨v,ay,J,aN.split hp a v hb.1 aa,bs.split hp az ay hb.2 au⟩
end
end
theorem iV.any {s bM:bt}{o i:b2}(hb:fO o.n8=true) (h:iV s o i):iV bM o i:=by
  obtain⟨J,aa,au,bn,bL⟩:=h
  refine⟨J,aa,au,bn,?_⟩
  cases ah:o.n8 with
  |none=>rw[ah]at bL; exact bL
  |some rows=>
   rw[ah]at bL hb
   obtain⟨l,ar,ax⟩:=bL
   exact⟨l,ar,ud hb ax⟩
def GF (p:bt) (cW:fe) (H:Nat→Option (TypeId×List I)):Nat→Option (TypeId×List I):=fun b=>bif p.b.contains b then (match (cW.find? fun q=>p.b.getD q.1 0==b) with
      |some q=>some (q.2.1,hB p q.2.2)
      |none=>none) else H b
def GG (p:bt) (ds:fp) (H:Nat→Option b2):Nat→Option b2:=fun t=>bif p.t.contains t then (match (ds.find? fun q=>p.t.getD q.1 0==t) with
      |some q=>some q.2
      |none=>none) else H t
def a1.mM (c:a1) (p:bt) (cW:fe) (ds:fp):a1:=⟨⟨GF p cW c.H.aU,GG p ds c.H.tok⟩,c.b7,c.bF⟩
def lX (H:Nat→Option (TypeId×List I)) (p:bt):fe→Prop
  |[]=>True
  |q::l=>H (p.b.getD q.1 0)=some (q.2.1,hB p q.2.2)∧lX H p l
def nJ (H:Nat→Option b2) (p:bt):fp→Prop
  |[]=>True
  |q::l=>H (p.t.getD q.1 0)=some q.2∧nJ H p l
theorem lX.get {H:Nat→Option (TypeId×List I)}{p:bt}: ∀ {l:fe},lX H p l→∀j T cs,iA l j=some (T,cs)→H (p.b.getD j 0)=some (T,hB p cs)
  |[],_,_,_,_,e=>by cases e
  |(k,x)::l,h,j,T,cs,e=>by
   simp only[lX]at h
   simp only[iA]at e
   cases aC:k==j with
   |true=>rw[aC]at e; cases e
          have:k=j:=by simpa using aC
          subst this; exact h.1
   |false=>rw[aC]at e; exact lX.get h.2 j T cs e
theorem nJ.get {H:Nat→Option b2}{p:bt}: ∀ {l:fp},nJ H p l→∀j o,jI l j=some o→H (p.t.getD j 0)=some o
  |[],_,_,_,e=>by cases e
  |(k,x)::l,h,j,o,e=>by
   simp only[nJ]at h
   simp only[jI]at e
   cases aC:k==j with
   |true=>rw[aC]at e; cases e
          have:k=j:=by simpa using aC
          subst this; exact h.1
   |false=>rw[aC]at e; exact nJ.get h.2 j o e
def nodupB:List Nat→Bool
  |[]=>true
  |a::l=> !l.contains a&&nodupB l
theorem EQ: ∀ {l:List Nat},nodupB l=true→∀(i j x:Nat),l[i]? =some x→l[j]? =some x→i=j
  |[],_,i,j,x,h,_=>by simp at h
  |a::l,h,0,0,x,_,_=>rfl
  |a::l,h,0,j+1,x,J,aa=>by
   simp only[nodupB,Bool.and_eq_true,Bool.not_eq_true']at h
   simp at J aa
   subst J
   have:=List.mem_of_getElem? aa
   simp [this]at h
  |a::l,h,i+1,0,x,J,aa=>by
   simp only[nodupB,Bool.and_eq_true,Bool.not_eq_true']at h
   simp at J aa
   subst aa
   have:=List.mem_of_getElem? J
   simp [this]at h
  |a::l,h,i+1,j+1,x,J,aa=>by
   simp only[nodupB,Bool.and_eq_true]at h
   simp at J aa
   rw[EQ h.2 i j x J aa]
def At (n t:Nat):Out→Bool
  | .ret a=>a.cR n t
  | .eR a=>a.cR n t
def Out.eF (p:bt):Out→Out
  | .ret a=> .ret (a.eF p)
  | .eR a=> .eR (a.eF p)
theorem XP {cW:fe}{p:bt}{b:Nat}{q:Nat×TypeId×List I}(h:cW.find? (fun q=>p.b.getD q.1 0==b)=some q):q∈cW∧p.b.getD q.1 0=b:=⟨List.mem_of_find?_eq_some h,by simpa using List.find?_some h⟩
section
variable {P:Program}{f:FuncId}{dz:List I}{c mT:a1}{uX:Out→a1→Prop}
theorem bz.frame (p:bt){gd:fe}{gn:fp}{n t:Nat}{Q:Out→a1→Prop}(h:bz P f dz (a1.of n t gd gn) uX) (a6:p.b.length=n) (aO:p.t.length=t)
    (bw:(nodupB p.b&&nodupB p.t)=true) (Bn: ∀(i x:Nat),p.b[i]? =some x→x<c.b7) (cK: ∀(i x:Nat),p.t[i]? =some x→x<c.bF) (hb:(dr n t dz&&(dP n t gd&&dV n t gn))=true) (dX:lX c.H.aU p gd) (c4:nJ c.H.tok p gn)
    (bG: ∀o c1,uX o c1→∃cW ds,mf c1.H cW∧mg c1.H ds∧(dP n t cW&&(dV n t ds&&At n t o))=true∧Q (o.eF p) (c.mM p cW ds)):bz P f (hB p dz) c Q:=fun H0 s iu H aP ag=>by
  subst a6 aO
  simp only[Bool.and_eq_true]at bw hb
  obtain⟨Y0,Y1⟩:=bw
  obtain⟨qF,hP,YI⟩:=hb
  have hp:p.Sub s:=⟨fun i x e=>by rw[←ag.b7]; exact Bn i x e,fun i x e=>by rw[←ag.bF]; exact cK i x e⟩
  have qI: ∀ {i x:Nat},p.b[i]? =some x→s.b[x]? =some (s.b.getD x 0):=fun e=>jF (hp.b _ _ e)
  have lc: ∀ {i x:Nat},p.t[i]? =some x→s.t[x]? =some (s.t.getD x 0):=fun e=>jF (hp.t _ _ e)
  let Ad:aA:=⟨fun x=>if x∈(p.comp s).b then none else H.aU x,fun x=>if x∈(p.comp s).t then none else H.tok x⟩
  have ZN:eW Ad (p.comp s) (a1.of p.b.length p.t.length gd gn) H:=by
    refine⟨⟨⟨fun x y e=> ?_,fun x y e=> ?_⟩,fun b T cs e=> ?_,fun b o e=> ?_,fun b x e=> ?_,fun b x e=> ?_,fun b bX x e cC=> ?_,fun b bX x e cC=> ?_⟩,by simp [a1.of,bt.comp],by simp [a1.of,bt.comp]⟩
    ·simp only[Ad]at e
     split at e
     ·cases e
     ·exact e
    ·simp only[Ad]at e
     split at e
     ·cases e
     ·exact e
    ·obtain⟨g1,g2⟩:=C2 hP b T cs e
     have g0:=jF (mS g1)
     obtain⟨x,c3,cI,c8,ep⟩:=ag.aU _ _ _ (dX.get b T cs e)
     exact⟨x,c3,by rw[Dk g0,oi cI],c8,bs.comp hp cs c3 g2 ep⟩
    ·obtain⟨g1,g2⟩:=C3 YI b o e
     have g0:=jF (mS g1)
     obtain⟨x,gP,cI,c8,ep⟩:=ag.tok _ _ (c4.get b o e)
     exact⟨x,gP,by rw[ys g0,oi cI],c8,iV.any g2 ep⟩
    ·obtain⟨y,ar,ax⟩:=va e
     have au:=qI ar
     rw[ax]at au
     refine⟨?_,(ag.lj y x au).2⟩
     show (if x∈(p.comp s).b then none else H.aU x)=none
     rw[if_pos (List.mem_of_getElem? e)]
    ·obtain⟨y,ar,ax⟩:=sM e
     have au:=lc ar
     rw[ax]at au
     refine⟨?_,(ag.lJ y x au).2⟩
     show (if x∈(p.comp s).t then none else H.tok x)=none
     rw[if_pos (List.mem_of_getElem? e)]
    ·obtain⟨y,ar,ax⟩:=va e
     obtain⟨gz,sO,DD⟩:=va cC
     have au:=qI ar
     have vo:=qI sO
     rw[ax]at au
     rw[DD]at vo
     have:=ag.ld _ _ _ au vo
     subst this
     exact EQ Y0 _ _ _ ar sO
    ·obtain⟨y,ar,ax⟩:=sM e
     obtain⟨gz,sO,DD⟩:=sM cC
     have au:=lc ar
     have vo:=lc sO
     rw[ax]at au
     rw[DD]at vo
     have:=ag.nc _ _ _ au vo
     subst this
     exact EQ Y1 _ _ _ ar sO
  refine (h Ad (p.comp s) iu H (bs.comp hp dz iu qF aP) ZN).mono fun gP aF ⟨bM,o,c1,fN,a2,a3,a4⟩=> ?_
  obtain⟨cW,ds,g1,g2,g3,g4⟩:=bG o c1 a2
  simp only[Bool.and_eq_true]at g3
  obtain⟨g3,g5,g6⟩:=g3
  have a5:=a4.cut g1 g2 (n:=p.b.length) (t:=p.t.length) (by
    rw[a4.b7]
    by_cases bE:p.b.length=0
    ·omega
    ·have ar:(p.comp s).b[p.b.length-1]? =some ((p.comp s).b.getD (p.b.length-1) 0):=jF (by simp only[bt.comp,List.length_map]; omega)
     have:=(List.getElem?_eq_some_iff.1 (fN.b _ _ ar)).1
     omega) (by
    rw[a4.bF]
    by_cases bE:p.t.length=0
    ·omega
    ·have ar:(p.comp s).t[p.t.length-1]? =some ((p.comp s).t.getD (p.t.length-1) 0):=jF (by simp only[bt.comp,List.length_map]; omega)
     have:=(List.getElem?_eq_some_iff.1 (fN.t _ _ ar)).1
     omega) g3 g5
  have es:(⟨bM.b.take p.b.length,bM.t.take p.t.length⟩:bt)=p.comp s:=by
    have cI:bM.b.take p.b.length=(p.comp s).b:=by
      apply List.ext_getElem?
      intro i
      rw[List.getElem?_take]
      split
      ·rename_i ai
       have:=jF (l:=(p.comp s).b) (i:=i) (by simp only[bt.comp,List.length_map]; exact ai)
       rw[this,fN.b _ _ this]
      ·rename_i ai
       rw[List.getElem?_eq_none (by simp only[bt.comp,List.length_map]; omega)]
    have c8:bM.t.take p.t.length=(p.comp s).t:=by
      apply List.ext_getElem?
      intro i
      rw[List.getElem?_take]
      split
      ·rename_i ai
       have:=jF (l:=(p.comp s).t) (i:=i) (by simp only[bt.comp,List.length_map]; exact ai)
       rw[this,fN.t _ _ this]
      ·rename_i ai
       rw[List.getElem?_eq_none (by simp only[bt.comp,List.length_map]; omega)]
    rw[cI,c8]
  have CW:mQ (p.comp s) o gP:=by
    rw[←es]
    cases o<;>cases gP<;>simp only[mQ,At]at a3 g6 ⊢
    ·exact aN.cut _ _ a3 g6
    ·exact aN.cut _ _ a3 g6
  rw[es]at a5
  have YL:HSub H0 aF:=⟨fun x y e=>a4.base.aU x y (by
      show (if x∈(p.comp s).b then none else H.aU x)=some y
      rw[if_neg ?_,ag.base.aU x y e]
      intro hm
      obtain⟨i,ai⟩:=List.getElem?_of_mem hm
      obtain⟨z,ar,ax⟩:=va ai
      have au:=qI ar
      rw[ax]at au
      rw[(ag.lj _ _ au).1]at e
      cases e),fun x y e=>a4.base.tok x y (by
      show (if x∈(p.comp s).t then none else H.tok x)=some y
      rw[if_neg ?_,ag.base.tok x y e]
      intro hm
      obtain⟨i,ai⟩:=List.getElem?_of_mem hm
      obtain⟨z,ar,ax⟩:=sM ai
      have au:=lc ar
      rw[ax]at au
      rw[(ag.lJ _ _ au).1]at e
      cases e)⟩
  have Zx: ∀ {b x:Nat},s.b[b]? =some x→(x∈(p.comp s).b↔b∈p.b):=by
    intro b x e
    constructor
    ·intro hm
     obtain⟨i,ai⟩:=List.getElem?_of_mem hm
     obtain⟨z,ar,ax⟩:=va ai
     have au:=qI ar
     rw[ax]at au
     rw[ag.ld _ _ _ e au]
     exact List.mem_of_getElem? ar
    ·intro hm
     obtain⟨i,ai⟩:=List.getElem?_of_mem hm
     have:=Dk (s:=s) ai
     rw[oi e]at this
     exact List.mem_of_getElem? this
  have Bq: ∀ {b x:Nat},s.t[b]? =some x→(x∈(p.comp s).t↔b∈p.t):=by
    intro b x e
    constructor
    ·intro hm
     obtain⟨i,ai⟩:=List.getElem?_of_mem hm
     obtain⟨z,ar,ax⟩:=sM ai
     have au:=lc ar
     rw[ax]at au
     rw[ag.nc _ _ _ e au]
     exact List.mem_of_getElem? ar
    ·intro hm
     obtain⟨i,ai⟩:=List.getElem?_of_mem hm
     have:=ys (s:=s) ai
     rw[oi e]at this
     exact List.mem_of_getElem? this
  refine⟨gP,aF,by cases gP<;>exact eI.refl _,HSub.refl _,s,o.eF p,c.mM p cW ds,bt.et.refl s,g4,?_,⟨⟨YL,fun b T cs e=> ?_,fun b ak9 e=> ?_,fun b x e=> ?_,fun b x e=> ?_,ag.ld,ag.nc⟩,ag.b7,ag.bF⟩⟩
  ·cases o<;>cases gP<;>simp only[mQ,Out.eF,At]at CW g6 ⊢
   ·exact aN.split hp _ _ g6 CW
   ·exact aN.split hp _ _ g6 CW
  ·simp only[a1.mM,GF]at e
   cases hm:p.b.contains b with
   |false=>
    rw[hm,cond_false]at e
    obtain⟨x,c3,cI,c8,ep⟩:=ag.aU b T cs e
    refine⟨x,c3,cI,a4.base.aU x _ ?_,ep⟩
    show (if x∈(p.comp s).b then none else H.aU x)= _
    rw[if_neg ?_,c8]
    rw[Zx cI]
    intro bh
    simp [bh]at hm
   |true=>
    rw[hm,cond_true]at e
    split at e
    ·rename_i q bG
     obtain⟨bC,bA⟩:=XP bG
     cases e
     obtain⟨lg,tL,jX⟩:=q
     simp only at bA ⊢
     have y0:lg<p.b.length∧dr p.b.length p.t.length jX=true∧∃x c3,(p.comp s).b[lg]? =some x∧aF.aU x=some (tL,c3)∧bs (p.comp s) jX c3:=by
       have D4: ∀(l:fe),mf c1.H l→dP p.b.length p.t.length l=true→(lg,tL,jX)∈l→c1.H.aU lg=some (tL,jX)∧lg<p.b.length∧dr p.b.length p.t.length jX=true:=by
         intro l
         induction l with
         |nil=>intro _ _ h; simp at h
         |cons q l cv=>
          intro J aa au
          simp only[mf]at J
          simp only[dP,Bool.and_eq_true,Nat.blt_eq]at aa
          simp only[List.mem_cons]at au
          rcases au with au|au
          ·subst au; exact⟨J.1,aa.1,aa.2.1⟩
          ·exact cv J.2 aa.2.2 au
       obtain⟨bO,b4,cJ⟩:=D4 cW g1 g3 bC
       obtain⟨x,c3,x4,x5,zU⟩:=a4.aU lg tL jX bO
       have GB:(p.comp s).b[lg]? =some x:=by
         have w:=jF (l:=(p.comp s).b) (i:=lg) (by simp only[bt.comp,List.length_map]; exact b4)
         have mc:=fN.b _ _ w
         rw[x4]at mc
         cases mc
         exact w
       refine⟨b4,cJ,x,c3,GB,x5,?_⟩
       have:=bs.cut (n:=p.b.length) (t:=p.t.length) _ _ zU cJ
       rw[es]at this
       exact this
     obtain⟨b4,cJ,x,c3,x4,x5,zU⟩:=y0
     obtain⟨y,ar,ax⟩:=va x4
     have au:=qI ar
     rw[ax]at au
     rw[oi ar]at bA
     subst bA
     exact⟨x,c3,au,x5,bs.split hp jX c3 cJ zU⟩
    ·cases e
  ·simp only[a1.mM,GG]at e
   cases hm:p.t.contains b with
   |false=>
    rw[hm,cond_false]at e
    obtain⟨x,c3,cI,c8,ep⟩:=ag.tok b ak9 e
    refine⟨x,c3,cI,a4.base.tok x _ ?_,ep⟩
    show (if x∈(p.comp s).t then none else H.tok x)= _
    rw[if_neg ?_,c8]
    rw[Bq cI]
    intro bh
    simp [bh]at hm
   |true=>
    rw[hm,cond_true]at e
    split at e
    ·rename_i q bG
     have bC:=List.mem_of_find?_eq_some bG
     have bA:p.t.getD q.1 0=b:=by simpa using List.find?_some bG
     cases e
     obtain⟨lg,BM⟩:=q
     simp only at bA ⊢
     have D4: ∀(l:fp),mg c1.H l→dV p.b.length p.t.length l=true→(lg,BM)∈l→c1.H.tok lg=some BM∧lg<p.t.length∧fO BM.n8=true:=by
       intro l
       induction l with
       |nil=>intro _ _ h; simp at h
       |cons q l cv=>
        intro J aa au
        simp only[mg]at J
        simp only[dV,Bool.and_eq_true,Nat.blt_eq]at aa
        simp only[List.mem_cons]at au
        rcases au with au|au
        ·subst au; exact⟨J.1,aa.1,aa.2.1⟩
        ·exact cv J.2 aa.2.2 au
     obtain⟨bO,b4,cJ⟩:=D4 ds g2 g5 bC
     obtain⟨x,gQ,x4,x5,zU⟩:=a4.tok lg BM bO
     have GB:(p.comp s).t[lg]? =some x:=by
       have w:=jF (l:=(p.comp s).t) (i:=lg) (by simp only[bt.comp,List.length_map]; exact b4)
       have mc:=fN.t _ _ w
       rw[x4]at mc
       cases mc
       exact w
     obtain⟨y,ar,ax⟩:=sM GB
     have au:=lc ar
     rw[ax]at au
     rw[oi ar]at bA
     subst bA
     exact⟨x,gQ,au,x5,iV.any cJ zU⟩
    ·cases e
  ·obtain⟨cI,y,c8⟩:=ag.lj b x e
   refine⟨cI,?_⟩
   by_cases hm:x∈(p.comp s).b
   ·obtain⟨i,ai⟩:=List.getElem?_of_mem hm
    exact (a4.lj i x (fN.b _ _ ai)).2
   ·exact⟨y,a4.base.aU x y (by show (if x∈(p.comp s).b then none else H.aU x)=some y; rw[if_neg hm]; exact c8)⟩
  ·obtain⟨cI,y,c8⟩:=ag.lJ b x e
   refine⟨cI,?_⟩
   by_cases hm:x∈(p.comp s).t
   ·obtain⟨i,ai⟩:=List.getElem?_of_mem hm
    exact (a4.lJ i x (fN.t _ _ ai)).2
   ·exact⟨y,a4.base.tok x y (by show (if x∈(p.comp s).t then none else H.tok x)=some y; rw[if_neg hm]; exact c8)⟩
def fJ (v:I) (cW:fe) (ds:fp):Out→a1→Prop:=fun o c=>o= .ret v∧mf c.H cW∧mg c.H ds
theorem bz.pM (p:bt){gd bl1:fe}{gn tl1:fp}{n t:Nat}{v:I}(h:bz P f dz (a1.of n t gd gn) (fJ v bl1 tl1)) (a6:p.b.length=n) (aO:p.t.length=t)
    (bw:(nodupB p.b&&nodupB p.t&&p.b.all (fun x=>Nat.blt x c.b7)&&p.t.all (fun x=>Nat.blt x c.bF))=true) (dX:lX c.H.aU p gd) (c4:nJ c.H.tok p gn) (hb:(dr n t dz&&(dP n t gd&&dV n t gn))=true)
    (J:(dP n t bl1&&(dV n t tl1&&v.cR n t))=true){az:List I}(aP:az=hB p dz):bz P f az c (nw (v.eF p) (c.mM p bl1 tl1)):=by
  simp only[Bool.and_eq_true,List.all_eq_true]at bw
  obtain⟨⟨⟨d1,d2⟩,d3⟩,d4⟩:=bw
  subst aP
  refine bz.frame p h a6 aO (by rw[d1,d2]; rfl) (fun i x e=>mS (d3 x (List.mem_of_getElem? e))) (fun i x e=>mS (d4 x (List.mem_of_getElem? e))) hb dX c4 ?_
  rintro o c1 ⟨rfl,aa,au⟩
  exact⟨bl1,tl1,aa,au,J,rfl,rfl⟩
end
end Go.bc
namespace Go.bc
open Go
section
variable {P:Program}{aL:List bk}{cD t0:Nat}{k:List ga}{Q:Out→a1→Prop}{env:Env}{c c1:a1}{v r:I}{anns:List I}{l:List bP}{K:Env→a1→Prop}{Rp:I→a1→Prop}{d:Option Nat}{g:Option (Nat×Bool)}{x y i:aK}{ik:IntKind}{size:Nat}{rows new:List (List I)}{row:List I}{a b:List UInt8}{z pq:Int}
theorem Wl {z:Int}{len:Nat}(aw:0≤z) (J:z<len):rq z len=some z.toNat:=by
  match z,aw,J with
  | .ofNat n,_,J=>
    have:Nat.blt n len=true:=Nat.blt_eq.symm▸Int.ofNat_lt.1 J
    simp only[rq,this,cond_true]
    rfl
theorem BN {z:Int}(aw:0≤z): ∃n:Nat,z= .ofNat n∧z.toNat=n:=⟨z.toNat,(Int.toNat_of_nonneg aw).symm,rfl⟩
theorem ae.bR (hw:wanted ⟨d,g,.bin .add x y⟩ env=some true) (ab:bp env x= .str a) (aZ:bp env y= .str b) (hb:a.length+b.length≤maxLen) (h:ae P anns l (env.put d (.str (a++b))) c K Rp):ae P anns (⟨d,g,.bin .add x y⟩::l) env c K Rp:=
  ae.o hw rfl (by simp only[eM,mW,fj,ab,aZ,tR,Nat.ble_eq_true_of_le hb,cond_true]<;>rfl) h
theorem ae.ac7 (hw:wanted ⟨d,g,.fW size x i⟩ env=some true) (ab:bp env x= .ay size rows) (ai:bp env i= .int ik z) (aw:0≤z) (ag:rows[z.toNat]? =some row) (h:ae P anns l (env.put d (.dO row 0)) c K Rp):ae P anns (⟨d,g,.fW size x i⟩::l) env c K Rp:=by
  obtain⟨n,ar,ax⟩:=BN aw
  rw[ax]at ag
  subst ar
  exact ae.o hw rfl (by simp only[eM,mW,fj,ab,ai,beq_self_eq_true,cond_true,ag]<;>rfl) h
theorem ae.ac4 {t:Nat}(hw:wanted ⟨d,g,.fW size x i⟩ env=some true) (ab:bp env x= .own t size rows) (ai:bp env i= .int ik z) (aw:0≤z) (ag:rows[z.toNat]? =some row) (h:ae P anns l (env.put d (.dO row 0)) c K Rp):ae P anns (⟨d,g,.fW size x i⟩::l) env c K Rp:=by
  obtain⟨n,ar,ax⟩:=BN aw
  rw[ax]at ag
  subst ar
  exact ae.o hw rfl (by simp only[eM,mW,fj,ab,ai,beq_self_eq_true,cond_true,ag]<;>rfl) h
theorem ae.ac6 {u:UInt8}(hw:wanted ⟨d,g,.eJ x i⟩ env=some true) (ab:bp env x= .str a) (ai:bp env i= .int ik z) (aw:0≤z) (ag:a[z.toNat]? =some u) (h:ae P anns l (env.put d (.int .u8 u.toNat)) c K Rp):ae P anns (⟨d,g,.eJ x i⟩::l) env c K Rp:=by
  obtain⟨n,ar,ax⟩:=BN aw
  rw[ax]at ag
  subst ar
  exact ae.o hw rfl (by simp only[eM,mW,fj,ab,ai,ag]<;>rfl) h
theorem ae.F7 {cz ai:Option aK}{p q:Nat}(hw:wanted ⟨d,g,.gE x cz ai⟩ env=some true) (ab:bp env x= .str a) (aH:nD env 0 cz=some p) (bh:nD env a.length ai=some q) (J:p≤q) (aa:q≤a.length) (h:ae P anns l (env.put d (.str ((a.take q).drop p))) c K Rp):ae P anns (⟨d,g,.gE x cz ai⟩::l) env c K Rp:=
  ae.o hw rfl (by simp only[eM,mW,fj,ab,aH,bh,Nat.ble_eq_true_of_le J,Nat.ble_eq_true_of_le aa,Bool.and_true,cond_true]<;>rfl) h
theorem ae.aG4 {cz ai:Option aK}{p q:Nat}(hw:wanted ⟨d,g,.h9 size x cz ai none⟩ env=some true) (ab:mG size (bp env x)=some rows) (aH:nD env 0 cz=some p) (bh:nD env rows.length ai=some q) (J:p≤q) (aa:q≤rows.length) (h:ae P anns l (env.put d (.ay size ((rows.take q).drop p))) c K Rp):ae P anns (⟨d,g,.h9 size x cz ai none⟩::l) env c K Rp:=
  ae.o hw rfl (by simp only[eM,mW,fj,ab,aH,bh,Nat.ble_eq_true_of_le J,Nat.ble_eq_true_of_le aa,Bool.and_true,cond_true]<;>rfl) h
theorem ak7 {env:Env}{Ds:Nat}{x:aK}{z:Int}(ab:bp env x= .int ik z) (aw:0≤z):nD env Ds (some x)=some z.toNat:=by
  obtain⟨n,ar,ax⟩:=BN aw
  subst ar
  simp only[nD,ab]
  rfl
theorem ae.gL {T bytes t:Nat}(hw:wanted ⟨d,g,.append T size bytes x y⟩ env=some true) (ab:bp env x= .own t size rows) (aO:c.H.tok t=some (.bJ T size rows.length)) (aZ:rowsOf size (bp env y)=some new) (hb:(rows.length+new.length)*bytes≤140737488355328) (hm:rows.length+new.length≤maxLen) (h:ae P anns l (env.put d (.own t size (rows++new))) (c.cA t (.bJ T size (rows.length+new.length))) K Rp):ae P anns (⟨d,g,.append T size bytes x y⟩::l) env c K Rp:=
  ae.o hw rfl (by simp only[eM,mW,aZ,ab,Di,aO,b2.bJ,beq_self_eq_true,Nat.ble_eq_true_of_le hb,Nat.ble_eq_true_of_le hm,Bool.and_true,cond_true]<;>rfl) h
theorem ae.Wz {t:Nat}(hw:wanted ⟨d,g,.k8 false x⟩ env=some true) (ab:bp env x= .own t 1 rows) (hb:jB rows=some a) (h:ae P anns l (env.put d (.str a)) c K Rp):ae P anns (⟨d,g,.k8 false x⟩::l) env c K Rp:=
  ae.o hw rfl (by simp only[eM,mW,fj,ab,hb]<;>rfl) h
theorem KG {env:Env}{j:Nat}{v:I}(h:env.get j=v): ∀i,Env.get ((j,v)::env) i=env.get i:=fun i=>by
  simp only[Env.get]
  cases ai:j==i with
  |true=>have:j=i:=by simpa using ai
         subst this; exact h.symm
  |false=>rfl
theorem ae.gs {j:Nat}{t:Bool}{op:bj}{b:Bool}(hb:env.get j= .bool b) (J:b=true→ae P anns (⟨d,some (j,t),op⟩::l) ((j,.bool true)::env) c K Rp) (aa:b=false→ae P anns (⟨d,some (j,t),op⟩::l) ((j,.bool false)::env) c K Rp):ae P anns (⟨d,some (j,t),op⟩::l) env c K Rp:=fun H0 s bb H K' iW he ag dv hO=>by
  cases b with
  |true=>exact J rfl H0 s bb H K' iW (fun i=>by rw[KG hb i]; exact he i) ag dv hO
  |false=>exact aa rfl H0 s bb H K' iW (fun i=>by rw[KG hb i]; exact he i) ag dv hO
theorem aj.b6 {ops:List bP}{draw:Bool}(h:ae P [] ops env c (fun e c1=>aj P aL cD t0 k Q e c1) (fun v c1=>Q (.eR v) c1)):aj P aL cD t0 (.c (.region ops draw)::k) Q env c:=aj.fs h
theorem ae.ac3 {p d:Nat}(ag:rows[p]? =some row) (ab:bp env x= .ay size rows) (ai:bp env i= .int ik z) (e:z=p) (h:ae P anns l ((d,.dO row 0)::env) c K Rp):ae P anns (⟨some d,none,.fW size x i⟩::l) env c K Rp:=ae.ac7 rfl ab ai (by omega) (by rw[e,Int.toNat_natCast]; exact ag) h
theorem ae.ac5 {p d t:Nat}(ag:rows[p]? =some row) (ab:bp env x= .own t size rows) (ai:bp env i= .int ik z) (e:z=p) (h:ae P anns l ((d,.dO row 0)::env) c K Rp):ae P anns (⟨some d,none,.fW size x i⟩::l) env c K Rp:=ae.ac4 rfl ab ai (by omega) (by rw[e,Int.toNat_natCast]; exact ag) h
theorem ae.Mv {p d:Nat}{u:UInt8}(ag:a[p]? =some u) (ab:bp env x= .str a) (ai:bp env i= .int ik z) (e:z=p) (h:ae P anns l ((d,.int .u8 u.toNat)::env) c K Rp):ae P anns (⟨some d,none,.eJ x i⟩::l) env c K Rp:=ae.ac6 rfl ab ai (by omega) (by rw[e,Int.toNat_natCast]; exact ag) h
theorem zo {env:Env}{Ds:Nat}{x:aK}{z:Int}{p:Nat}(ab:bp env x= .int ik z) (e:z=p):nD env Ds (some x)=some p:=by subst e; rw[ak7 ab (by omega),Int.toNat_natCast]
theorem ae.aG5 {cz:aK}(p:Nat){d:Nat}(ab:mG size (bp env x)=some rows) (aH:bp env cz= .int ik z) (ar:z=p) (J:p≤rows.length) (h:ae P anns l ((d,.ay size (rows.drop p))::env) c K Rp):ae P anns (⟨some d,none,.h9 size x (some cz) none none⟩::l) env c K Rp:=ae.aG4 rfl ab (zo aH ar) rfl J (Nat.le_refl _) (by rw[List.take_length]; exact h)
theorem ae.aD9 {ai:aK}(q:Nat){d:Nat}(ab:mG size (bp env x)=some rows) (aH:bp env ai= .int ik z) (ar:z=q) (J:q≤rows.length) (h:ae P anns l ((d,.ay size (rows.take q))::env) c K Rp):ae P anns (⟨some d,none,.h9 size x none (some ai) none⟩::l) env c K Rp:=ae.aG4 rfl ab rfl (zo aH ar) (Nat.zero_le _) J h
theorem ae.uM {cz ai:aK}(p q:Nat){d:Nat}{Mm:IntKind}(ab:bp env x= .str a) (aH:bp env cz= .int ik z) (bh:bp env ai= .int Mm pq) (ar:z=p) (ax:pq=q) (J:p≤q) (aa:q≤a.length) (h:ae P anns l ((d,.str ((a.take q).drop p))::env) c K Rp):ae P anns (⟨some d,none,.gE x (some cz) (some ai)⟩::l) env c K Rp:=ae.F7 rfl ab (zo aH ar) (zo bh ax) J aa h
theorem ae.RU {cz:aK}(p:Nat){d:Nat}(ab:bp env x= .str a) (aH:bp env cz= .int ik z) (ar:z=p) (J:p≤a.length) (h:ae P anns l ((d,.str (a.drop p))::env) c K Rp):ae P anns (⟨some d,none,.gE x (some cz) none⟩::l) env c K Rp:=ae.F7 rfl ab (zo aH ar) rfl J (Nat.le_refl _) (by rw[List.take_length]; exact h)
theorem ae.aG3 {ai:aK}(q:Nat){d:Nat}(ab:bp env x= .str a) (aH:bp env ai= .int ik z) (ar:z=q) (J:q≤a.length) (h:ae P anns l ((d,.str (a.take q))::env) c K Rp):ae P anns (⟨some d,none,.gE x none (some ai)⟩::l) env c K Rp:=ae.F7 rfl ab rfl (zo aH ar) (Nat.zero_le _) J h
theorem ae.V6 {d:Nat}(ab:bp env x= .str a) (aZ:bp env y= .str b) (hb:a.length+b.length≤maxLen) (h:ae P anns l ((d,.str (a++b))::env) c K Rp):ae P anns (⟨some d,none,.bin .add x y⟩::l) env c K Rp:=ae.bR rfl ab aZ hb h
theorem ae.Hj {T bytes t d:Nat}(ab:bp env x= .own t size rows) (aO:c.H.tok t=some (.bJ T size rows.length)) (aZ:rowsOf size (bp env y)=some new) (hb:(rows.length+new.length)*bytes≤140737488355328) (hm:rows.length+new.length≤maxLen) (h:ae P anns l ((d,.own t size (rows++new))::env) (c.cA t (.bJ T size (rows.length+new.length))) K Rp):ae P anns (⟨some d,none,.append T size bytes x y⟩::l) env c K Rp:=ae.gL rfl ab aO aZ hb hm h
theorem MR {α β:Type}(f:α→β){l:List α}{i:Nat}{v:α}(h:l[i]? =some v):(l.map f)[i]? =some (f v):=by simp [h]
theorem ae.e3 {α:Type}{f:α→List I}{w:α}{m:List α}{p d:Nat}(ab:bp env x= .ay size (m.map f)) (ai:bp env i= .int ik z) (ag:m[p]? =some w) (e:z=p) (h:ae P anns l ((d,.dO (f w) 0)::env) c K Rp):ae P anns (⟨some d,none,.fW size x i⟩::l) env c K Rp:=ae.ac3 (MR f ag) ab ai e h
theorem ae.e4 {α:Type}{f:α→List I}{w:α}{m:List α}{p d t:Nat}(ab:bp env x= .own t size (m.map f)) (ai:bp env i= .int ik z) (ag:m[p]? =some w) (e:z=p) (h:ae P anns l ((d,.dO (f w) 0)::env) c K Rp):ae P anns (⟨some d,none,.fW size x i⟩::l) env c K Rp:=ae.ac5 (MR f ag) ab ai e h
theorem ae.e5 {u:UInt8}{p d:Nat}(ab:bp env x= .str a) (ai:bp env i= .int ik z) (ag:a[p]? =some u) (e:z=p) (h:ae P anns l ((d,.int .u8 u.toNat)::env) c K Rp):ae P anns (⟨some d,none,.eJ x i⟩::l) env c K Rp:=ae.Mv ag ab ai e h
theorem aj.rL (j size T:Nat) (bq:env.get j= .aV) (aw:size≠0) (h:aj P aL cD t0 k Q ((j,.own c.bF size [])::env) (c.ig (.bJ T size 0))):aj P aL cD t0 k Q env c:=fun H0 du s bb H R a6 aO ap he ag an=>by
  refine cx.conv (fun cC aF=> ∃t,H.tok t=none∧cC=(j,.own t size [])::bb∧aF=H.cA t (.bJ T size 0)) ?_ ?_
  ·intro m eD bo
   subst eD
   obtain⟨bO,ar,v1⟩:=EM bo (T:=T) aw
   refine⟨_,_,_,_,⟨m.T,uS bo,rfl,rfl⟩,bO,ar,fun i w hw=> ?_⟩
   simp only[Env.get]
   cases ai:j==i with
   |true=>
    have:j=i:=by simpa using ai
    subst this
    have aY:=he j
    rw[bq]at aY
    simp only[aN]at aY
    rw[aY]at hw
    simp only[aR]at hw
    subst hw
    exact v1
   |false=>exact aR.aJ ar _ _ hw
  ·rintro cC aF ⟨t,J,rfl,rfl⟩
   refine h H0 du ⟨s.b,s.t++[t]⟩ _ _ R a6 aO (ap.trans (bt.l0 s t)) ?_ (ag.ig iV.bJ J) an
   refine (he.mono (bt.l0 s t)).put (d:=some j) ?_
   simp only[aN]
   exact⟨t,[],by rw[ag.bF]; exact pz,rfl,by simp only[cn]⟩
theorem aj.oU (p o size qh:Nat){T:TypeId}{cs:List I}(hb:c.H.aU p=some (T,cs)) (aq:cs[o]? =some .aV) (aw:size≠0) (h:aj P aL cD t0 k Q env ((c.ig (.bJ qh size 0)).ch p T (cs.set o (.own c.bF size [])))):aj P aL cD t0 k Q env c:=fun H0 du s bb H R a6 aO ap he ag an=>by
  obtain⟨x,c3,cI,c8,ep⟩:=ag.aU p T cs hb
  have rV:c3[o]? =some .aV:=by
    obtain⟨v,ar,ax⟩:=ep.get o _ aq
    simp only[aN]at ax
    rw[ar,ax]
  refine cx.conv (fun cC aF=> ∃t,H.tok t=none∧cC=bb∧aF=(H.cA t (.bJ qh size 0)).ch x T (c3.set o (.own t size []))) ?_ ?_
  ·intro m eD bo
   subst eD
   obtain⟨bO,ar,v1⟩:=EM bo (T:=qh) aw
   obtain⟨l,yZ,oX,Zo⟩:=bO.aU x T c3 c8
   obtain⟨v,By,y6⟩:=oX.get o _ rV
   simp only[aR]at y6
   subst y6
   have LR:=oX.set o v1
   rw[ML By]at LR
   have b4:=b5.jS bO (w':=m.w) (b:=x) (T:=T) c8 rfl rfl rfl rfl (fun _ _=>rfl) yZ LR Zo
   have ax:=b0.jS bO (w':=m.w) (b:=x) (T:=T) (cs:=c3.set o (.own m.T size [])) c8 rfl rfl rfl rfl (fun _ _=>rfl)
   exact⟨bb,_,_,_,⟨m.T,uS bo,rfl,rfl⟩,b4,ar.trans ax,fun j v af=>aR.aJ (ar.trans ax) _ _ af⟩
  ·rintro cC aF ⟨t,J,rfl,rfl⟩
   have bL:=ag.ig (s:=s) (x:=t) (iV.bJ (s:=s) (T:=qh) (size:=size) (n:=0)) J
   refine h H0 du ⟨s.b,s.t++[t]⟩ _ _ R a6 aO (ap.trans (bt.l0 s t)) (he.mono (bt.l0 s t)) (bL.ch cI ?_) an
   have: ∀ {az l:List I}(_:bs s az l) (n:Nat){a v:I},aN ⟨s.b,s.t++[t]⟩ a v→bs ⟨s.b,s.t++[t]⟩ (az.set n a) (l.set n v):=by
     intro az
     induction az with
     |nil=>intro l h n a v _; simp only[bs]at h; subst h; simp [bs]
     |cons a az cv=>
      intro l h n b v af
      simp only[bs]at h
      obtain⟨w,ws,rfl,J,aa⟩:=h
      cases n with
      |zero=>simp only[List.set_cons_zero,bs]; exact⟨_,_,rfl,af,bs.mono (bt.l0 s t) _ _ aa⟩
      |succ n=>simp only[List.set_cons_succ,bs]; exact⟨_,_,rfl,aN.mono (bt.l0 s t) _ _ J,cv aa n af⟩
   refine this ep o ?_
   simp only[aN]
   exact⟨t,[],by rw[ag.bF]; exact pz,rfl,by simp only[cn]⟩
def Ag {X:Type}(E:X→Env) (C:X→a1) (er:X→Prop) (bS:X→Nat):Nat→Env→a1→Prop:=fun m env c=> ∃x,er x∧env=E x∧c=C x∧bS x=m
theorem aj.dd {X:Type}{body:bu}(mN:X) (E:X→Env) (B:X→fe) (T:X→fp) (er:X→Prop) (bS:X→Nat) (aw:er mN) (he:qe env (E mN)) (hb:mf c.H (B mN)) (aO:mg c.H (T mN)) (h: ∀x,er x→aj P aL cD t0 (.c body:: .h8 (Ag E (fun x=>a1.of c.b7 c.bF (B x) (T x)) er bS) (bS x)::k) Q (E x) (a1.of c.b7 c.bF (B x) (T x))):aj P aL cD t0 (.c (.loop body)::k) Q env c:=
  aj.BE (E mN) (B mN) (T mN) he hb aO (aj.loop (Ag E (fun x=>a1.of c.b7 c.bF (B x) (T x)) er bS) (bS mN) ⟨mN,aw,rfl,rfl,rfl⟩ fun m e cB ⟨x,J,aa,au,bn⟩=>by subst aa au bn; exact h x J)
theorem aj.dK {X:Type}{E:X→Env}{b7 bF:Nat}{B:X→fe}{T:X→fp}{er:X→Prop}{bS:X→Nat}{m0:Nat}(x:X) (aw:er x) (he:qe env (E x)) (hb:mf c.H (B x)) (aO:mg c.H (T x)) (a6:c.b7=b7) (hm:c.bF=bF) (J:bS x<m0):aj P aL cD t0 (.h8 (Ag E (fun x=>a1.of b7 bF (B x) (T x)) er bS) m0::k) Q env c:=
  aj.BE (E x) (B x) (T x) he hb aO (aj.round (bS x) ⟨x,aw,rfl,by rw[a6,hm],rfl⟩ J)
theorem aj.gT {X:Type}{E:X→Env}{b7 bF:Nat}{B:X→fe}{T:X→fp}{er:X→Prop}{bS:X→Nat}{m0:Nat}(x:X) (aw:er x) (he:qe env (E x)) (hb:mf c.H (B x)) (aO:mg c.H (T x)) (a6:(Nat.ble cD b7&&(Nat.ble b7 c.b7&&(Nat.ble t0 bF&&Nat.ble bF c.bF)))=true) (bw:(fY b7 bF (E x)&&(dP b7 bF (B x)&&dV b7 bF (T x)))=true) (J:bS x<m0):aj P aL cD t0 (.h8 (Ag E (fun x=>a1.of b7 bF (B x) (T x)) er bS) m0::k) Q env c:=
  aj.cut b7 bF (E x) (B x) (T x) he hb aO a6 bw (aj.round (bS x) ⟨x,aw,rfl,rfl,rfl⟩ J)
end
section
variable {P:Program}{aL:List bk}{cD t0:Nat}{k:List ga}{Q:Out→a1→Prop}{env:Env}{c:a1}
abbrev GU {X:Type}(P:Program) (aL:List bk) (cD t0:Nat) (k:List ga) (Q:Out→a1→Prop) (E:X→Env) (b7 bF:Nat) (B:X→fe) (T:X→fp) (er:X→Prop):Prop:=∀(env:Env) (c:a1) (x:X),er x→qe env (E x)→mf c.H (B x)→mg c.H (T x)→c.b7=b7→c.bF=bF→aj P aL cD t0 k Q env c
theorem aj.C5 {X:Type}{id:Nat}{b:bu}(E:X→Env) (B:X→fe) (T:X→fp) (er:X→Prop) (aa: ∀x,er x→aj P aL cD t0 k Q (E x) (a1.of c.b7 c.bF (B x) (T x))) (J:GU P aL cD t0 k Q E c.b7 c.bF B T er→aj P aL cD t0 (.c b:: .aU id::k) Q env c):aj P aL cD t0 (.c (.block id b)::k) Q env c:=
  aj.block (J fun e cB x ab he hb aO a6 hm=>aj.BE (E x) (B x) (T x) he hb aO (by rw[a6,hm]; exact aa x ab))
theorem aj.aD8 {X:Type}{a b:bu}(E:X→Env) (B:X→fe) (T:X→fp) (er:X→Prop) (aa: ∀x,er x→aj P aL cD t0 (.c b::k) Q (E x) (a1.of c.b7 c.bF (B x) (T x))) (J:GU P aL cD t0 (.c b::k) Q E c.b7 c.bF B T er→aj P aL cD t0 (.c a:: .c b::k) Q env c):aj P aL cD t0 (.c (.seq a b)::k) Q env c:=
  aj.seq (J fun e cB x ab he hb aO a6 hm=>aj.BE (E x) (B x) (T x) he hb aO (by rw[a6,hm]; exact aa x ab))
end
theorem qx {α:Type}{f:α→List I}(h: ∀x,b3 (f x)=true): ∀(l:List α),fP (l.map f)=true
  |[]=>rfl
  |a::l=>by simp only[List.map_cons,fP,h,qx h l,Bool.and_self]
mutual
theorem GL: ∀(a:I),a.flat=true→a.av=a
  | .agg cs,h=>by simp only[I.flat]at h; simp only[I.av,GJ cs h]
  | .di cs,h=>by simp only[I.flat]at h; simp only[I.av,GJ cs h]
  | .own _ _ _,h=>by simp [I.flat]at h
  | .ew,_=>rfl
  | .bool _,_=>rfl
  | .int _ _,_=>rfl
  | .str _,_=>rfl
  | .dQ _,_=>rfl
  | .ptr _ _,_=>rfl
  | .ay _ _,_=>rfl
  | .ez _ _,_=>rfl
  | .mp _ _ _,_=>rfl
  | .dO _ _,_=>rfl
  | .fn _ _,_=>rfl
  | .gW _ _,_=>rfl
theorem GJ: ∀(l:List I),b3 l=true→jU l=l
  |[],_=>rfl
  |a::l,h=>by simp only[b3,Bool.and_eq_true]at h; simp only[jU,GL a h.1,GJ l h.2]
end
mutual
inductive kC:I→I→Prop
  |av {v r:I}(h:v.av=r) (aW:r.flat=true):kC v r
  |nil {n:Nat}:kC .aV (.ay n [])
  |agg {az cH:List I}(h:qi az cH):kC (.agg az) (.agg cH)
  |di {az cH:List I}(h:qi az cH):kC (.di az) (.di cH)
inductive qi:List I→List I→Prop
  |nil:qi [] []
  |cons {a b:I}{az cH:List I}(h:kC a b) (t:qi az cH):qi (a::az) (b::cH)
end
mutual
theorem kC.le: ∀ {v r:I},kC v r→∀(s:bt) (bT:I),aN s v bT→eI bT r
  | _,_,.av h aW,s,bT,af=>by subst h; exact fun m y aZ=>z1 _ bT af aW y aZ
  | _,_,.nil,s,bT,af=>by simp only[aN]at af; subst af; exact eI.nil
  | _,_,.agg h,s,bT,af=>by simp only[aN]at af; obtain⟨l,e,aH⟩:=af; subst e; exact Hm (qi.le h s l aH)
  | _,_,.di h,s,bT,af=>by simp only[aN]at af; obtain⟨l,e,aH⟩:=af; subst e; exact Tl (qi.le h s l aH)
theorem qi.le: ∀ {az cH:List I},qi az cH→∀(s:bt) (l:List I),bs s az l→e7 l cH
  | _,_,.nil,s,l,h=>by simp only[bs]at h; subst h; exact Tm
  | _,_,.cons h t,s,l,aH=>by simp only[bs]at aH; obtain⟨v,ay,e,J,aa⟩:=aH; subst e; exact Hn (kC.le h s v J) (qi.le t s ay aa)
end
def tJ (r:I) (cW:fe) (ds:fp):Out→a1→Prop:=fun o c=> ∃v,o= .ret v∧kC v r∧mf c.H cW∧mg c.H ds
theorem bz.rw {P:Program}{f:FuncId}{az:List I}{c:a1}{r:I}{cW:fe}{ds:fp}(h:bz P f az c (tJ r cW ds)) (ag:r.flat=true):bz P f az c (fJ r cW ds):=fun H0 s iu H aP bh=>
  (h H0 s iu H aP bh).mono fun o aF ⟨bM,gQ,c1,fN,⟨v,ar,ax,cw,fq⟩,a3,a4⟩=>by
    subst ar
    cases o with
    |eR w=>simp only[mQ]at a3
    |ret w=>exact⟨.ret r,aF,kC.le ax bM w a3,HSub.refl _,bM,.ret r,c1,fN,⟨rfl,cw,fq⟩,(I.lC _ ag _).2 rfl,a4⟩
theorem bz.ab5 {P:Program}{f:FuncId}{az:List I}{c:a1}{aL:List bk}{r:I}{cW:fe}{ds:fp}{fn:Func}{e:bu}(hm:P.follows .mixedOrders=true) (aW:P.funcs[f]? =some fn) (ah:bY P fn az.length e aL=true) (ag:r.flat=true) (h:aj P aL c.b7 c.bF [.c e] (tJ r cW ds) (mw az) c):bz P f az c (fJ r cW ds):=(bz.intro hm aW ah h).rw ag
theorem cF {P:Program}{f:FuncId}{az:List I}{aL:List bk}{r:I}{fn:Func}{e:bu}(hm:P.follows .mixedOrders=true) (aW:P.funcs[f]? =some fn) (ah:bY P fn az.length e aL=true) (aP:b3 az=true) (ag:r.flat=true) (h:aj P aL 0 0 [.c e] (tJ r [] []) (mw az) .new):Pure P f az r:=
  bz.pure (bz.ab5 hm aW ah ag h) aP ag fun o c1 ⟨e,_,_⟩=>⟨r,e,GL r ag⟩
end Go.bc
namespace Go.bc
open Go
def nV (b:Nat):fe→fe
  |[]=>[]
  |(k,x)::l=>bif k==b then nV b l else (k,x)::nV b l
def sd (b:Nat):fp→fp
  |[]=>[]
  |(k,x)::l=>bif k==b then sd b l else (k,x)::sd b l
theorem xt {b j:Nat}(h:(b==j)=false): ∀(l:fe),iA (nV b l) j=iA l j
  |[]=>rfl
  |(k,x)::l=>by
   simp only[nV,iA]
   cases aC:k==b with
   |true=>
    have e:k=b:=by simpa using aC
    subst e
    rw[cond_true,h,cond_false,xt h l]
   |false=>simp only[cond_false,iA,xt h l]
theorem ze {b j:Nat}(h:(b==j)=false): ∀(l:fp),jI (sd b l) j=jI l j
  |[]=>rfl
  |(k,x)::l=>by
   simp only[sd,jI]
   cases aC:k==b with
   |true=>
    have e:k=b:=by simpa using aC
    subst e
    rw[cond_true,h,cond_false,ze h l]
   |false=>simp only[cond_false,jI,ze h l]
def sc:List Nat→fe→fe
  |[],l=>l
  |b::cH,l=>nV b (sc cH l)
def se:List Nat→fp→fp
  |[],l=>l
  |b::cH,l=>sd b (se cH l)
def sa (p:bt):fe→fe
  |[]=>[]
  |q::l=>(p.b.getD q.1 0,q.2.1,hB p q.2.2)::sa p l
def sb (p:bt):fp→fp
  |[]=>[]
  |q::l=>(p.t.getD q.1 0,q.2)::sb p l
def qj:fe→fe→fe
  |[],m=>m
  |q::l,m=>q::qj l m
def qk:fp→fp→fp
  |[],m=>m
  |q::l,m=>q::qk l m
theorem RA {j:Nat}: ∀(cH:List Nat),cH.contains j=true→∀l,iA (sc cH l) j=none
  |[],h,_=>by simp at h
  |b::cH,h,l=>by
   have key: ∀(l:fe),iA (nV j l) j=none:=by
     intro l
     induction l with
     |nil=>rfl
     |cons q l cv=>
      obtain⟨k,x⟩:=q
      simp only[nV]
      cases aC:k==j with
      |true=>rw[cond_true]; exact cv
      |false=>simp only[cond_false,iA,aC]; exact cv
   simp only[sc]
   by_cases e:b=j
   ·subst e; exact key _
   ·have cC:(b==j)=false:=by simpa using e
    rw[xt cC]
    refine RA cH ?_ l
    simp only[List.contains_cons,Bool.or_eq_true,beq_iff_eq]at h
    exact h.resolve_left fun h=>e h.symm
theorem RC {j:Nat}: ∀(cH:List Nat),cH.contains j=true→∀l,jI (se cH l) j=none
  |[],h,_=>by simp at h
  |b::cH,h,l=>by
   have key: ∀(l:fp),jI (sd j l) j=none:=by
     intro l
     induction l with
     |nil=>rfl
     |cons q l cv=>
      obtain⟨k,x⟩:=q
      simp only[sd]
      cases aC:k==j with
      |true=>rw[cond_true]; exact cv
      |false=>simp only[cond_false,jI,aC]; exact cv
   simp only[se]
   by_cases e:b=j
   ·subst e; exact key _
   ·have cC:(b==j)=false:=by simpa using e
    rw[ze cC]
    refine RC cH ?_ l
    simp only[List.contains_cons,Bool.or_eq_true,beq_iff_eq]at h
    exact h.resolve_left fun h=>e h.symm
theorem RB {j:Nat}: ∀(cH:List Nat),cH.contains j=false→∀l,iA (sc cH l) j=iA l j
  |[],_,_=>rfl
  |b::cH,h,l=>by
   simp only[List.contains_cons,Bool.or_eq_false_iff,beq_eq_false_iff_ne]at h
   simp only[sc]
   rw[xt (by simpa using fun e=>h.1 (Eq.symm e)),RB cH h.2]
theorem RD {j:Nat}: ∀(cH:List Nat),cH.contains j=false→∀l,jI (se cH l) j=jI l j
  |[],_,_=>rfl
  |b::cH,h,l=>by
   simp only[List.contains_cons,Bool.or_eq_false_iff,beq_eq_false_iff_ne]at h
   simp only[se]
   rw[ze (by simpa using fun e=>h.1 (Eq.symm e)),RD cH h.2]
section
variable {n t b:Nat}{cW bl1:fe}{ds tl1:fp}{T:TypeId}{cs:List I}{o:b2}
theorem yt {a c:a1}(J: ∀j,a.H.aU j=c.H.aU j) (aa: ∀j,a.H.tok j=c.H.tok j) (au:a.b7=c.b7) (bn:a.bF=c.bF):a=c:=by
  obtain⟨⟨fN,a2⟩,a3,a4⟩:=a
  obtain⟨⟨c1,c2⟩,gg,iJ⟩:=c
  simp only at J aa au bn
  have ar:fN=c1:=funext J
  have ax:a2=c2:=funext aa
  subst ar ax au bn
  rfl
theorem BO:(a1.of n t cW ds).ch b T cs=a1.of n t ((b,T,cs)::nV b cW) ds:=yt (fun j=>by
  simp only[a1.ch,a1.of,aA.ch,iA]
  cases bq:b==j with
  |true=>have e:b=j:=by simpa using bq
         subst e; simp
  |false=>have e: ¬j=b:=fun e=>by subst e; simp at bq
          rw[if_neg e,cond_false,xt bq]) (fun j=>rfl) rfl rfl
theorem NL:(a1.of n t cW ds).pw T cs=a1.of (n+1) t ((n,T,cs)::cW) ds:=yt (fun j=>by
  simp only[a1.pw,a1.of,aA.ch,iA]
  cases bq:n==j with
  |true=>have e:n=j:=by simpa using bq
         subst e; simp
  |false=>have e: ¬j=n:=fun e=>by subst e; simp at bq
          exact if_neg e) (fun j=>rfl) rfl rfl
theorem NP:(a1.of n t cW ds).cA b o=a1.of n t cW ((b,o)::sd b ds):=yt (fun j=>rfl) (fun j=>by
  simp only[a1.cA,a1.of,aA.cA,jI]
  cases bq:b==j with
  |true=>have e:b=j:=by simpa using bq
         subst e; simp
  |false=>have e: ¬j=b:=fun e=>by subst e; simp at bq
          rw[if_neg e,cond_false,ze bq]) rfl rfl
theorem ER:(a1.of n t cW ds).ig o=a1.of n (t+1) cW ((t,o)::ds):=yt (fun j=>rfl) (fun j=>by
  simp only[a1.ig,a1.of,aA.cA,jI]
  cases bq:t==j with
  |true=>have e:t=j:=by simpa using bq
         subst e; simp
  |false=>have e: ¬j=t:=fun e=>by subst e; simp at bq
          exact if_neg e) rfl rfl
theorem zn {p:bt}:(a1.of n t cW ds).mM p bl1 tl1=a1.of n t (qj ((sa p bl1).filter fun q=>p.b.contains q.1) (sc p.b cW)) (qk ((sb p tl1).filter fun q=>p.t.contains q.1) (se p.t ds)):=yt (fun j=>by
  simp only[a1.mM,a1.of,GF]
  cases ah:p.b.contains j with
  |true=>
   rw[cond_true]
   induction bl1 with
   |nil=>simp only[List.find?,sa,List.filter,qj]; rw[RA p.b ah]
   |cons q l cv=>
    simp only[List.find?,sa]
    cases bG:p.b.getD q.1 0==j with
    |true=>
     have e:p.b.getD q.1 0=j:=by simpa using bG
     rw[e]
     simp only[List.filter,ah,qj,iA,beq_self_eq_true,cond_true]
    |false=>
     simp only[List.filter]
     cases bw:p.b.contains (p.b.getD q.1 0) with
     |true=>simp only[qj,iA,bG,cond_false]; exact cv
     |false=>exact cv
  |false=>
   rw[cond_false]
   induction bl1 with
   |nil=>simp only[sa,List.filter,qj]; rw[RB p.b ah]
   |cons q l cv=>
    simp only[sa,List.filter]
    cases bw:p.b.contains (p.b.getD q.1 0) with
    |true=>
     have:(p.b.getD q.1 0==j)=false:=by
       cases bq:p.b.getD q.1 0==j with
       |false=>rfl
       |true=>have e:p.b.getD q.1 0=j:=by simpa using bq
              rw[e,ah]at bw; cases bw
     simp only[qj,iA,this,cond_false]; exact cv
    |false=>exact cv) (fun j=>by
  simp only[a1.mM,a1.of,GG]
  cases ah:p.t.contains j with
  |true=>
   rw[cond_true]
   induction tl1 with
   |nil=>simp only[List.find?,sb,List.filter,qk]; rw[RC p.t ah]
   |cons q l cv=>
    simp only[List.find?,sb]
    cases bG:p.t.getD q.1 0==j with
    |true=>
     have e:p.t.getD q.1 0=j:=by simpa using bG
     rw[e]
     simp only[List.filter,ah,qk,jI,beq_self_eq_true,cond_true]
    |false=>
     simp only[List.filter]
     cases bw:p.t.contains (p.t.getD q.1 0) with
     |true=>simp only[qk,jI,bG,cond_false]; exact cv
     |false=>exact cv
  |false=>
   rw[cond_false]
   induction tl1 with
   |nil=>simp only[sb,List.filter,qk]; rw[RD p.t ah]
   |cons q l cv=>
    simp only[sb,List.filter]
    cases bw:p.t.contains (p.t.getD q.1 0) with
    |true=>
     have:(p.t.getD q.1 0==j)=false:=by
       cases bq:p.t.getD q.1 0==j with
       |false=>rfl
       |true=>have e:p.t.getD q.1 0=j:=by simpa using bq
              rw[e,ah]at bw; cases bw
     simp only[qk,jI,this,cond_false]; exact cv
    |false=>exact cv) rfl rfl
theorem ES {j:Nat}:(a1.of n t cW ds).H.aU j=iA cW j:=rfl
theorem NQ {j:Nat}:(a1.of n t cW ds).H.tok j=jI ds j:=rfl
theorem NM:(a1.of n t cW ds).b7=n:=rfl
theorem NO:(a1.of n t cW ds).bF=t:=rfl
theorem NN:a1.new=a1.of 0 0 [] []:=rfl
theorem H6 {l:List I}{agg:Bool}{o n:Nat}:n9 l agg o n=if o+n≤l.length then I.iB agg ((l.drop o).take n) else none:=by
  unfold n9
  by_cases h:o+n≤l.length
  ·rw[Nat.ble_eq_true_of_le h,if_pos h,cond_true]
  ·rw[if_neg h]
   cases hb:Nat.ble (o+n) l.length with
   |true=>exact absurd (Nat.le_of_ble_eq_true hb) h
   |false=>rfl
theorem Ic {c:a1}{b o n:Nat}{x:I}:tV c b o n x=match c.H.aU b with
  |some (T,cs)=>if (x.eo=true∧x.cells.length=n)∧(o+n≤cs.length∧x.cells.all I.one=true) then some (.undef,c.ch b T (gx cs o x.cells)) else none
  |none=>none:=by
  unfold tV
  cases e:c.H.aU b with
  |none=>rfl
  |some q=>
   obtain⟨T,cs⟩:=q
   simp only[]
   by_cases h:(x.eo=true∧x.cells.length=n)∧(o+n≤cs.length∧x.cells.all I.one=true)
   ·rw[if_pos h,h.1.1,h.1.2,h.2.2,Nat.ble_eq_true_of_le h.2.1]
    simp
   ·rw[if_neg h]
    cases hb:(x.eo&&x.cells.length==n)&&(Nat.ble (o+n) cs.length&&x.cells.all I.one) with
    |false=>rfl
    |true=>
     simp only[Bool.and_eq_true,beq_iff_eq,Nat.ble_eq]at hb
     exact absurd hb h
theorem NR:I.one (.dQ (.slice none 0 0))=true:=rfl
theorem NI:(Value.slice none 0 0).oneCell'=true:=rfl
theorem NJ:(Value.pointer none).oneCell'=true:=rfl
theorem NS:I.one (.dQ (.pointer none))=true:=rfl
theorem HV {env:Env}{j:Nat}:bp env (.t j)=env.get j:=rfl
theorem HU {env:Env}{a:I}:bp env (.c a)=bif a.flat then a else .ew:=rfl
theorem xE {env:Env}{d:Nat}{v:I}:env.put (some d) v=(d,v)::env:=rfl
theorem xD {env:Env}{v:I}:env.put none v=env:=rfl
theorem DT {a d:Nat}{l:List Nat}:(a::l).getD 0 d=a:=rfl
theorem K2 {a d i:Nat}{l:List Nat}:(a::l).getD (i+1) d=l.getD i d:=rfl
section
variable {env:Env}{c:a1}{x y z:aK}{zero l:List I}{OK:List (Nat×Nat×aK)}{td:List (Nat×aK)}{agg:Bool}{n m e6:Nat}{Av:BinOp}{cu:List lQ}{ik:IntKind}{xs:List aK}{cz ai lI:Option aK}{T:TypeId}
theorem HP {env:Env}{cells:List I}:sK env cells []=some cells:=rfl
theorem HO {env:Env}{cells:List I}{off size:Nat}{x:aK}{rest:List (Nat×Nat×aK)}:sK env cells ((off,size,x)::rest)=if (bp env x).eo=true∧((bp env x).cells.length=size∧off+size≤cells.length) then sK env (gx cells off (bp env x).cells) rest else none:=by
  simp only[sK]
  by_cases h:(bp env x).eo=true∧((bp env x).cells.length=size∧off+size≤cells.length)
  ·rw[if_pos h,h.1,h.2.1,Nat.ble_eq_true_of_le h.2.2]
   simp
  ·rw[if_neg h]
   cases hb:(bp env x).eo&&((bp env x).cells.length==size&&Nat.ble (off+size) cells.length) with
   |false=>rfl
   |true=>
    simp only[Bool.and_eq_true,beq_iff_eq,Nat.ble_eq]at hb
    exact absurd hb h
theorem H2 {n:Int}{len:Nat}:rq n len=if 0≤n∧n<len then some n.toNat else none:=by
  by_cases h:0≤n∧n<len
  ·rw[if_pos h,Wl h.1 h.2]
  ·rw[if_neg h]
   cases ah:rq n len with
   |none=>rfl
   |some k=>exact absurd ⟨(wG ah).1,(wG ah).2.1⟩ h
theorem SI {n:Int}(aw:0≤n) (J:n≤18446744073709551615):IntKind.u64.wrap n=n:=by rw[IntKind.wrap_u64]; omega
theorem SJ {n:Int}(aw:0≤n) (J:n≤255):IntKind.u8.wrap n=n:=by rw[IntKind.wrap_u8]; omega
theorem MX {α:Type}{b:Int}{x y:α}(h:0≤b):(if 0≤b then x else y)=x:=if_pos h
theorem Ny:eM (.hs x) env c=(fj (.hs x) env c.H).map fun v=>(v,c):=rfl
theorem NC:eM (.pick x y z) env c=(fj (.pick x y z) env c.H).map fun v=>(v,c):=rfl
theorem NA:eM (.cE x) env c=(fj (.cE x) env c.H).map fun v=>(v,c):=rfl
theorem M9:eM (.build zero OK) env c=(fj (.build zero OK) env c.H).map fun v=>(v,c):=rfl
theorem Nr:eM (.load agg n x) env c=(fj (.load agg n x) env c.H).map fun v=>(v,c):=rfl
theorem Ns:eM (.hr e6 agg n x) env c=(fj (.hr e6 agg n x) env c.H).map fun v=>(v,c):=rfl
theorem Nt:eM (.nd agg n x) env c=(fj (.nd agg n x) env c.H).map fun v=>(v,c):=rfl
theorem Ng:eM (.nH n x) env c=(fj (.nH n x) env c.H).map fun v=>(v,c):=rfl
theorem Nh:eM (.field agg n m x) env c=(fj (.field agg n m x) env c.H).map fun v=>(v,c):=rfl
theorem Ni:eM (.fW n x y) env c=(fj (.fW n x y) env c.H).map fun v=>(v,c):=rfl
theorem Nj:eM (.o1 n m x y) env c=(fj (.o1 n m x y) env c.H).map fun v=>(v,c):=rfl
theorem Nk:eM (.jn agg n m x y) env c=(fj (.jn agg n m x y) env c.H).map fun v=>(v,c):=rfl
theorem Nl:eM (.eJ x y) env c=(fj (.eJ x y) env c.H).map fun v=>(v,c):=rfl
theorem M3:eM (.bin Av x y) env c=(fj (.bin Av x y) env c.H).map fun v=>(v,c):=rfl
theorem M4:eM (.pA Av x y) env c=(fj (.pA Av x y) env c.H).map fun v=>(v,c):=rfl
theorem Nd:eM (.oS agg T cu x y) env c=(fj (.oS agg T cu x y) env c.H).map fun v=>(v,c):=rfl
theorem NB:eM (.not x) env c=(fj (.not x) env c.H).map fun v=>(v,c):=rfl
theorem ND:eM (.qZ agg x) env c=(fj (.qZ agg x) env c.H).map fun v=>(v,c):=rfl
theorem Nz:eM (.neg x) env c=(fj (.neg x) env c.H).map fun v=>(v,c):=rfl
theorem Na:eM (.conv ik x) env c=(fj (.conv ik x) env c.H).map fun v=>(v,c):=rfl
theorem Nq:eM (.fQ x) env c=(fj (.fQ x) env c.H).map fun v=>(v,c):=rfl
theorem No:eM (.len x) env c=(fj (.len x) env c.H).map fun v=>(v,c):=rfl
theorem Np:eM (.pU n) env c=(fj (.pU n) env c.H).map fun v=>(v,c):=rfl
theorem Nu:eM (.nR agg xs) env c=(fj (.nR agg xs) env c.H).map fun v=>(v,c):=rfl
theorem NE:eM (.gE x cz ai) env c=(fj (.gE x cz ai) env c.H).map fun v=>(v,c):=rfl
theorem NF:eM (.h9 n x cz ai lI) env c=(fj (.h9 n x cz ai lI) env c.H).map fun v=>(v,c):=rfl
theorem Nf:eM (.extract n x) env c=(fj (.extract n x) env c.H).map fun v=>(v,c):=rfl
theorem Nv:eM (.ng n xs) env c=(fj (.ng n xs) env c.H).map fun v=>(v,c):=rfl
theorem Nw:eM (.o4 n xs) env c=(fj (.o4 n xs) env c.H).map fun v=>(v,c):=rfl
theorem Nc:eM (.k8 agg x) env c=(fj (.k8 agg x) env c.H).map fun v=>(v,c):=rfl
theorem Nb:eM (.jC T x) env c=(fj (.jC T x) env c.H).map fun v=>(v,c):=rfl
theorem Nx:eM (.o5 T x) env c=(fj (.o5 T x) env c.H).map fun v=>(v,c):=rfl
theorem Nn:eM (.nQ agg x) env c=(fj (.nQ agg x) env c.H).map fun v=>(v,c):=rfl
theorem M6:eM (.dA T n m l td) env c=(fj (.dA T n m l td) env c.H).map fun v=>(v,c):=rfl
theorem M5:eM (.box T x) env c=bif (bp env x).eo&&(bp env x).cells.all I.one then some (.ptr c.b7 0,c.pw T (bp env x).cells) else none:=rfl
theorem M2:eM (.alloc T zero) env c=bif b3 zero&&zero.all I.one then some (.ptr c.b7 0,c.pw T zero) else none:=rfl
theorem NG:eM (.store n x y) env c=(match bp env x with
    | .ptr b o=>tV c b o n (bp env y)
    | .mp t bg k=>AD c t bg k n (bp env y)
    | _=>none):=rfl
theorem NH {others:List Nat}:eM (.fh e6 others n x y) env c=(match env.get e6,bp env x with
    | .ptr b 0,.ptr bX o=>bif bX==b&&others.all (mV env b) then tV c b o n (bp env y) else none
    | _,_=>none):=rfl
theorem M8:eM (.ml T n m zero td) env c=bif rr env n td then some (.own c.bF n (qq env td),c.ig (.bJ T n (qq env td).length)) else none:=rfl
theorem M7:eM (.mj T n m zero td) env c=bif rr env n td then some (.ez c.bF 0,c.ig (.bS T n 0 (qq env td))) else none:=rfl
end
end
end Go.bc
namespace Go.bc
open Go
mutual
def I.kU:I→Bool
  | .ew=>false
  | .agg cs=>kq cs
  | .di cs=>kq cs
  | .ay _ rows=>fP rows
  | .own _ _ rows=>fP rows
  | .dO row _=>b3 row
  | .fn _ cap=>kq cap
  | .gW _ v=>v.kU
  | _=>true
def kq:List I→Bool
  |[]=>true
  |a::az=>a.kU&&kq az
end
theorem KY {s:bt}{az l b8:List (List I)}(h:fP az=true) (J:cn s az l) (aa:cn s az b8):l=b8:=((rG az h l).1 J).trans ((rG az h b8).1 aa).symm
theorem XR {s:bt}{az l b8:List I}(h:b3 az=true) (J:bs s az l) (aa:bs s az b8):l=b8:=((nI az h l).1 J).trans ((nI az h b8).1 aa).symm
mutual
theorem aN.same {s:bt}: ∀(a v bT:I),a.kU=true→aN s a v→aN s a bT→v=bT
  | .ew,_,_,h,_,_=>by simp [I.kU]at h
  | .ptr b o,_,_,_,J,aa=>by simp only[aN]at*; obtain⟨x,ar,rfl⟩:=J; obtain⟨y,ax,rfl⟩:=aa; rw[ar]at ax; cases ax; rfl
  | .ez b o,_,_,_,J,aa=>by simp only[aN]at*; obtain⟨x,ar,rfl⟩:=J; obtain⟨y,ax,rfl⟩:=aa; rw[ar]at ax; cases ax; rfl
  | .mp b o k,_,_,_,J,aa=>by simp only[aN]at*; obtain⟨x,ar,rfl⟩:=J; obtain⟨y,ax,rfl⟩:=aa; rw[ar]at ax; cases ax; rfl
  | .agg cs,_,_,h,J,aa=>by simp only[I.kU]at h; simp only[aN]at*; obtain⟨l,rfl,ar⟩:=J; obtain⟨m,rfl,ax⟩:=aa; rw[bs.same cs l m h ar ax]
  | .di cs,_,_,h,J,aa=>by simp only[I.kU]at h; simp only[aN]at*; obtain⟨l,rfl,ar⟩:=J; obtain⟨m,rfl,ax⟩:=aa; rw[bs.same cs l m h ar ax]
  | .fn f cs,_,_,h,J,aa=>by simp only[I.kU]at h; simp only[aN]at*; obtain⟨l,rfl,ar⟩:=J; obtain⟨m,rfl,ax⟩:=aa; rw[bs.same cs l m h ar ax]
  | .gW t a,_,_,h,J,aa=>by simp only[I.kU]at h; simp only[aN]at*; obtain⟨l,rfl,ar⟩:=J; obtain⟨m,rfl,ax⟩:=aa; rw[aN.same a l m h ar ax]
  | .ay n rows,_,_,h,J,aa=>by simp only[I.kU]at h; simp only[aN]at*; obtain⟨l,rfl,ar⟩:=J; obtain⟨m,rfl,ax⟩:=aa; rw[KY h ar ax]
  | .dO row o,_,_,h,J,aa=>by simp only[I.kU]at h; simp only[aN]at*; obtain⟨l,rfl,ar⟩:=J; obtain⟨m,rfl,ax⟩:=aa; rw[XR h ar ax]
  | .own t n rows,_,_,h,J,aa=>by
    simp only[I.kU]at h
    simp only[aN]at*
    obtain⟨x,l,bE,rfl,ar⟩:=J
    obtain⟨y,m,IH,rfl,ax⟩:=aa
    rw[bE]at IH
    cases IH
    rw[KY h ar ax]
  | .bool _,_,_,_,J,aa=>by simp only[aN]at*; rw[J,aa]
  | .int _ _,_,_,_,J,aa=>by simp only[aN]at*; rw[J,aa]
  | .str _,_,_,_,J,aa=>by simp only[aN]at*; rw[J,aa]
  | .dQ _,_,_,_,J,aa=>by simp only[aN]at*; rw[J,aa]
theorem bs.same {s:bt}: ∀(az l b8:List I),kq az=true→bs s az l→bs s az b8→l=b8
  |[],_,_,_,J,aa=>by simp only[bs]at*; rw[J,aa]
  |a::az,_,_,h,J,aa=>by
   simp only[kq,Bool.and_eq_true]at h
   simp only[bs]at*
   obtain⟨v,ay,rfl,fN,a2⟩:=J
   obtain⟨w,ws,rfl,eB,dU⟩:=aa
   rw[aN.same a v w h.1 fN eB,bs.same az ay ws h.2 a2 dU]
end
mutual
theorem aN.ex {s:bt}{n t:Nat}(a6:n≤s.b.length) (aO:t≤s.t.length): ∀(a:I),a.cR n t=true→∃v,aN s a v
  | .ew,_=>⟨.ew,by simp only[aN]⟩
  | .ptr b o,h=>⟨_,by simp only[aN]; exact⟨_,jF (Nat.lt_of_lt_of_le (mS h) a6),rfl⟩⟩
  | .ez b o,h=>⟨_,by simp only[aN]; exact⟨_,jF (Nat.lt_of_lt_of_le (mS h) aO),rfl⟩⟩
  | .mp b o k,h=>⟨_,by simp only[aN]; exact⟨_,jF (Nat.lt_of_lt_of_le (mS h) aO),rfl⟩⟩
  | .agg cs,h=>by simp only[I.cR]at h; obtain⟨l,e⟩:=bs.ex a6 aO cs h; exact⟨_,by simp only[aN]; exact⟨l,rfl,e⟩⟩
  | .di cs,h=>by simp only[I.cR]at h; obtain⟨l,e⟩:=bs.ex a6 aO cs h; exact⟨_,by simp only[aN]; exact⟨l,rfl,e⟩⟩
  | .fn f cs,h=>by simp only[I.cR]at h; obtain⟨l,e⟩:=bs.ex a6 aO cs h; exact⟨_,by simp only[aN]; exact⟨l,rfl,e⟩⟩
  | .gW t a,h=>by simp only[I.cR]at h; obtain⟨l,e⟩:=aN.ex a6 aO a h; exact⟨_,by simp only[aN]; exact⟨l,rfl,e⟩⟩
  | .ay m rows,h=>⟨_,by simp only[I.cR]at h; simp only[aN]; exact⟨rows,rfl,(rG rows h _).2 rfl⟩⟩
  | .dO row o,h=>⟨_,by simp only[I.cR]at h; simp only[aN]; exact⟨row,rfl,(nI row h _).2 rfl⟩⟩
  | .own x m rows,h=>⟨_,by simp only[I.cR,Bool.and_eq_true]at h; simp only[aN]; exact⟨_,rows,jF (Nat.lt_of_lt_of_le (mS h.1) aO),rfl,(rG rows h.2 _).2 rfl⟩⟩
  | .bool b,_=>⟨.bool b,by simp only[aN]⟩
  | .int k n,_=>⟨.int k n,by simp only[aN]⟩
  | .str x,_=>⟨.str x,by simp only[aN]⟩
  | .dQ x,_=>⟨.dQ x,by simp only[aN]⟩
theorem bs.ex {s:bt}{n t:Nat}(a6:n≤s.b.length) (aO:t≤s.t.length): ∀(az:List I),dr n t az=true→∃l,bs s az l
  |[],_=>⟨[],by simp only[bs]⟩
  |a::az,h=>by
   simp only[dr,Bool.and_eq_true]at h
   obtain⟨v,ar⟩:=aN.ex a6 aO a h.1
   obtain⟨l,ax⟩:=bs.ex a6 aO az h.2
   exact⟨v::l,by simp only[bs]; exact⟨v,l,rfl,ar,ax⟩⟩
end
theorem bt.et.eq {s bM:bt}(h:bt.et s bM) (J:bM.b.length=s.b.length) (aa:bM.t.length=s.t.length):bM=s:=by
  obtain⟨b,t⟩:=s
  obtain⟨bX,dx⟩:=bM
  simp only at J aa
  have ar:bX=b:=by
    apply List.ext_getElem?
    intro i
    by_cases ai:i<b.length
    ·have:=jF ai
     rw[this]; exact h.b _ _ this
    ·rw[List.getElem?_eq_none (by omega),List.getElem?_eq_none (by omega)]
  have ax:dx=t:=by
    apply List.ext_getElem?
    intro i
    by_cases ai:i<t.length
    ·have:=jF ai
     rw[this]; exact h.t _ _ this
    ·rw[List.getElem?_eq_none (by omega),List.getElem?_eq_none (by omega)]
  rw[ar,ax]
section
variable {P:Program}{env:Env}{c:a1}{v:I}{anns:List I}{l:List bP}{K:Env→a1→Prop}{Rp:I→a1→Prop}{f:FuncId}{args:List aK}{az:List I}
theorem iU.hM {others:List Nat}{b:Nat}{T:TypeId}{cs:List I}(h:bz P f (args.map (bp env)) c (nw v (c.ch b T cs))) (hb:Nat.blt b c.b7=true) (jc:dr c.b7 c.bF cs=true) (af:v.flat=true) (aq: ∀s∈others,∃bX cQ c3,env.get s= .ptr bX 0∧c.H.aU bX=some (cQ,c3)∧(bX==b)=false∧kq c3=true):iU P (.hM others f args) env c (fun bT cB=>bT=v∧cB=c.ch b T cs) Rp:=fun H0 s bb H K iW he ag dv hO=>by
  have qI:=jF (l:=s.b) (by rw[←ag.b7]; exact mS hb)
  have qH: ∀ {bM:bt}{c2:a1}{aF:aA},bt.et s bM→c2.b7=c.b7→c2.bF=c.bF→eW H0 bM c2 aF→bM=s:=fun cI c8 ep gw=>cI.eq (by rw[←gw.b7,c8,ag.b7]) (by rw[←gw.bF,ep,ag.bF])
  refine .hM (az:=args.map (aK.aJ bb)) _ (fun j bq=> ?_) (fun eC=> ?_) (e7.tl _) (h H0 s _ H (mU he args) ag) (BS (fun bM v1 Sy c1 aF cI c8 ep gw=>by obtain⟨ar,ax⟩:=c8; cases ar; exact dv bM _ Sy c1 aF cI ⟨rfl,ax⟩ ep gw) (fun bM v1 Sy c1 aF cI c8 ep gw=>by obtain⟨ar,ax⟩:=c8; cases ar))
  ·obtain⟨bX,cQ,c3,ar,ax,cw,fq⟩:=aq j bq
   have lZ:=he j
   rw[ar]at lZ
   simp only[aN]at lZ
   obtain⟨x,g1,g2⟩:=lZ
   refine⟨x,g2,fun o aF ⟨bM,gQ,c1,cI,⟨c8,ep⟩,gw,pb⟩=> ?_⟩
   subst ep
   have:=qH (c2:=c.ch b T cs) cI rfl rfl pb
   subst this
   obtain⟨y,aM,bO,b4,cJ⟩:=ag.aU bX cQ c3 ax
   have dw: ¬bX=b:=by simpa using cw
   obtain⟨po,dZ,fk,jQ,oz⟩:=pb.aU bX cQ c3 (by simp only[a1.ch,aA.ch,if_neg dw]; exact ax)
   rw[g1]at bO fk
   cases bO
   cases fk
   rw[b4,jQ,bs.same c3 aM dZ fq cJ oz]
  ·obtain⟨dZ,g1⟩:=bs.ex (s:=s) (Nat.le_of_eq ag.b7) (Nat.le_of_eq ag.bF) cs jc
   refine⟨v,H.ch (s.b.getD b 0) T dZ,⟨s,.ret v,_,bt.et.refl s,⟨rfl,rfl⟩,(I.lC v af v).2 rfl,ag.ch qI g1⟩,?_⟩
   obtain⟨N,bW⟩:=eC
   obtain⟨_,y,aZ⟩:=ag.lj b _ qI
   refine⟨N,fun m hm=>⟨?_,(bW m hm).2⟩⟩
   simp only[aA.ch]
   rw[if_neg (fun e=>by subst e; rw[(bW _ hm).1]at aZ; cases aZ)]
   exact (bW m hm).1
theorem ae.a8 {others:List Nat}{d b:Nat}{T:TypeId}{cs:List I}{c1:a1}(h:bz P f az c (nw v c1)) (aP:args.map (bp env)=az) (ah:c1=c.ch b T cs) (hb:Nat.blt b c.b7=true) (jc:dr c.b7 c.bF cs=true) (af:v.flat=true) (aq: ∀s∈others,∃bX cQ c3,env.get s= .ptr bX 0∧c.H.aU bX=some (cQ,c3)∧(bX==b)=false∧kq c3=true) (aC:ae P anns l ((d,v)::env) c1 K Rp):ae P anns (⟨some d,none,.hM others f args⟩::l) env c K Rp:=by
  subst aP ah
  exact ae.vQ rfl rfl (iU.hM h hb jc af aq) fun bT cB ⟨ar,ax⟩=>by rw[ar,ax]; exact aC
theorem ae.ar7 {d:Nat}{dz:List I}{r:I}(h:Pure P f az r) (aP:args.map (bp env)=dz) (hw:jU dz=az) (aW:b3 az=true) (ag:r.flat=true) (aC:ae P anns l ((d,r)::env) c K Rp):ae P anns (⟨some d,none,.call f args⟩::l) env c K Rp:=
  ae.wI rfl (bz.NK h aW ag hw) aP aC
end
end Go.bc
namespace Go.bc
open Go
def oj (a:I) (t:Bool):Option Bool:=match a with
  | .bool b=>some (b==t)
  | .dQ (.tuple ⟨[]⟩)=>some false
  | _=>none
theorem Lc {b t:Bool}:oj (.bool b) t=some (b==t):=rfl
theorem Ld {t:Bool}:oj .undef t=some false:=rfl
def Ba (g:Option (Nat×Bool)) (env:Env):Option Bool:=match g with
  |none=>some true
  |some (j,t)=>oj (env.get j) t
def dst (i:bP) (env:Env) (c:a1):Option (Env×a1):=match Ba i.guard env with
  |some true=>(eM i.op env c).map fun q=>(env.put i.dst q.1,q.2)
  |some false=>some (env.put i.dst .undef,c)
  |none=>none
def y8 (ex cW:Bool):List ga→Env→Option (List ga)
  | .c e::k,env=>match e with
    | .skip=>some k
    | .seq a b=>some (.c a:: .c b::k)
    | .block id b=>match cW with
      |true=>some (.c b:: .aU id::k)
      |false=>none
    | .exit id=>match ex with
      |true=>r1 id k
      |false=>none
    | .cond x a b=>match bp env x with
      | .bool true=>some (.c a::k)
      | .bool false=>some (.c b::k)
      | _=>none
    | _=>none
  | .aU _::k,_=>some k
  | _,_=>none
section
variable {P:Program}{aL:List bk}{cD t0:Nat}{k dY:List ga}{Q:Out→a1→Prop}{env bb:Env}{c cB:a1}{anns:List I}{l:List bP}{i:bP}{K:Env→a1→Prop}{Rp:I→a1→Prop}
theorem ae.s (hp:lG i.op=false) (h:dst i env c=some (bb,cB)) (aC:ae P anns l bb cB K Rp):ae P anns (i::l) env c K Rp:=by
  obtain⟨d,g,op⟩:=i
  have hw: ∀b,Ba g env=some b→wanted ⟨d,g,op⟩ env=some b:=by
    intro b hb
    cases g with
    |none=>exact hb
    |some p=>exact hb
  unfold dst at h
  simp only at h hp
  split at h
  ·rename_i e
   simp only[Option.map_eq_some_iff,Prod.mk.injEq]at h
   obtain⟨⟨v,c1⟩,J,aa,au⟩:=h
   subst aa au
   exact ae.o (hw _ e) hp J aC
  ·rename_i e
   simp only[Option.some.injEq,Prod.mk.injEq]at h
   obtain⟨aa,au⟩:=h
   subst aa au
   exact ae.hV (hw _ e) hp aC
  ·cases h
theorem ae.eX {d:Option Nat}{j:Nat}{t:Bool}{op:bj}(h:oj (env.get j) t=some true) (aC:ae P anns (⟨d,none,op⟩::l) env c K Rp):ae P anns (⟨d,some (j,t),op⟩::l) env c K Rp:=by
  unfold oj at h
  split at h
  ·rename_i b e
   simp only[Option.some.injEq,beq_iff_eq]at h
   exact ae.wV e h aC
  ·cases h
  ·cases h
theorem ae.eY {d:Option Nat}{j:Nat}{t:Bool}{op:bj}(hp:lG op=true) (h:oj (env.get j) t=some false) (aC:ae P anns l (env.put d .undef) c K Rp):ae P (.undef::anns) (⟨d,some (j,t),op⟩::l) env c K Rp:=ae.RT h hp aC
theorem aj.s (ex cW:Bool) (h:y8 ex cW k env=some dY) (aC:aj P aL cD t0 dY Q env c):aj P aL cD t0 k Q env c:=by
  unfold y8 at h
  split at h
  ·split at h
   ·cases h; exact .skip aC
   ·cases h; exact .seq aC
   ·cases cW with
    |true=>cases h; exact .block aC
    |false=>cases h
   ·cases ex with
    |true=>exact .exit h aC
    |false=>cases h
   ·split at h
    ·rename_i e; cases h; exact .oN e aC
    ·rename_i e; cases h; exact .oM e aC
    ·cases h
   ·cases h
  ·cases h; exact .gV aC
  ·cases h
theorem ae.pM {f:FuncId}{args:List aK}{d:Option Nat}(p:bt){dz:List I}{gd bl1:fe}{gn tl1:fp}{n t:Nat}{v:I}(h:bz P f dz (a1.of n t gd gn) (fJ v bl1 tl1)) (ah:(p.b.length==n&&(p.t.length==t&&(nodupB p.b&&(nodupB p.t&&(p.b.all (fun x=>Nat.blt x c.b7)&&(p.t.all (fun x=>Nat.blt x c.bF)&&(dr n t dz&&(dP n t gd&&(dV n t gn&&(dP n t bl1&&(dV n t tl1&&v.cR n t)))))))))))=true) (dX:lX c.H.aU p gd) (c4:nJ c.H.tok p gn) (aP:args.map (bp env)=hB p dz) (aC:ae P anns l (env.put d (v.eF p)) (c.mM p bl1 tl1) K Rp):ae P anns (⟨d,none,.call f args⟩::l) env c K Rp:=by
  simp only[Bool.and_eq_true,beq_iff_eq]at ah
  obtain⟨c1,c2,gg,iJ,nB,oK,qp,sI,oL,sH,Db,Dc⟩:=ah
  exact ae.wI rfl (bz.pM p h c1 c2 (by rw[gg,iJ,nB,oK]; rfl) dX c4 (by rw[qp,sI,oL]; rfl) (by rw[sH,Db,Dc]; rfl) rfl) aP aC
end
end Go.bc
namespace Go.bc
open Go
section
variable {dD:Program}{aL:List bk}{cD t0:Nat}{k dY:List ga}{Q:Out→a1→Prop}{env bb:Env}{c cB:a1}{anns:List I}{l:List bP}{K:Env→a1→Prop}{Rp:I→a1→Prop}{d:Option Nat}{g:Option (Nat×Bool)}{op:bj}{j:Nat}{t b:Bool}{v bT:I}{x i:aK}{ik:IntKind}{z:Int}{size p e:Nat}{f:FuncId}{args:List aK}
theorem D.S (aC:ae dD anns l bb cB K Rp) (hp:lG op=false:=by rfl) (h:dst ⟨d,g,op⟩ env c=some (bb,cB):=by simp (disch:=omega) only[go_sem,simprocAttr]<;>with_reducible rfl):ae dD anns (⟨d,g,op⟩::l) env c K Rp:=ae.s hp h aC
theorem D.cN (ex cW:Bool) (aC:aj dD aL cD t0 dY Q env c) (h:y8 ex cW k env=some dY:=by simp (disch:=omega) only[go_sem,simprocAttr]<;>with_reducible rfl):aj dD aL cD t0 k Q env c:=aj.s ex cW h aC
theorem D.W (aC:ae dD anns (⟨d,none,op⟩::l) env c K Rp) (h:oj (env.get j) t=some true:=by simp (disch:=omega) only[go_sem,simprocAttr]<;>with_reducible rfl):ae dD anns (⟨d,some (j,t),op⟩::l) env c K Rp:=ae.eX h aC
theorem D.Z (aC:ae dD anns l (env.put d .undef) c K Rp) (hp:lG op=true:=by rfl) (h:oj (env.get j) t=some false:=by simp (disch:=omega) only[go_sem,simprocAttr]<;>with_reducible rfl):ae dD (.undef::anns) (⟨d,some (j,t),op⟩::l) env c K Rp:=ae.eY hp h aC
theorem D.G (J:b=true→ae dD anns (⟨d,some (j,t),op⟩::l) ((j,.bool true)::env) c K Rp) (aa:b=false→ae dD anns (⟨d,some (j,t),op⟩::l) ((j,.bool false)::env) c K Rp) (h:env.get j= .bool b:=by simp (disch:=omega) only[go_sem,simprocAttr]<;>with_reducible rfl):ae dD anns (⟨d,some (j,t),op⟩::l) env c K Rp:=ae.gs h J aa
theorem D.C {a cp:bu}(J:b=true→aj dD aL cD t0 (.c a::k) Q env c) (aa:b=false→aj dD aL cD t0 (.c cp::k) Q env c) (h:bp env x= .bool b:=by simp (disch:=omega) only[go_sem,simprocAttr]<;>with_reducible rfl):aj dD aL cD t0 (.c (.cond x a cp)::k) Q env c:=aj.cond h J aa
theorem D.R (bG:Q (.ret v) c) (h:oa aL env c.H=some v:=by simp (disch:=omega) only[go_sem,simprocAttr]<;>with_reducible rfl):aj dD aL cD t0 (.c .ret::k) Q env c:=aj.ret h bG
theorem D.E (bG:Q (.ret v) c) (h:oa aL env c.H=some v:=by simp (disch:=omega) only[go_sem,simprocAttr]<;>with_reducible rfl):aj dD aL cD t0 [] Q env c:=aj.done h bG
theorem D.r (bG:Q (.ret v) c) (h:oa aL env c.H=some v:=by simp (disch:=omega) only[go_sem,simprocAttr]<;>with_reducible rfl) (aw:dY=[]∨∃k,dY= .c .ret::k:=by first|exact .inl rfl|exact .inr ⟨_,rfl⟩):aj dD aL cD t0 dY Q env c:=by
  rcases aw with rfl|⟨k,rfl⟩
  ·exact aj.done h bG
  ·exact aj.ret h bG
theorem D.rx (h:oa aL env c.H=some v:=by simp (disch:=omega) only[go_sem,simprocAttr]<;>with_reducible rfl) (bG:Q (.ret v) c:=by exact⟨_,rfl,.av rfl rfl,trivial,trivial⟩) (aw:dY=[]∨∃k,dY= .c .ret::k:=by first|exact .inl rfl|exact .inr ⟨_,rfl⟩):aj dD aL cD t0 dY Q env c:=D.r bG h aw
theorem D.X {α:Type}{f:α→List I}{w:α}{m:List α}{d:Nat}(ag:m[p]? =some w) (aC:ae dD anns l ((d,.dO (f w) 0)::env) c K Rp) (ab:bp env x= .ay size (m.map f):=by simp (disch:=omega) only[go_sem,simprocAttr]<;>with_reducible rfl) (ai:bp env i= .int ik z:=by simp (disch:=omega) only[go_sem,simprocAttr]<;>with_reducible rfl) (e:z=p:=by omega):ae dD anns (⟨some d,none,.fW size x i⟩::l) env c K Rp:=ae.e3 ab ai ag e aC
theorem D.eh {α:Type}{f:α→List I}{w:α}{m:List α}{d q:Nat}(ag:m[p]? =some w) (aC:ae dD anns l ((d,.dO (f w) 0)::env) c K Rp) (ab:bp env x= .own q size (m.map f):=by simp (disch:=omega) only[go_sem,simprocAttr]<;>with_reducible rfl) (ai:bp env i= .int ik z:=by simp (disch:=omega) only[go_sem,simprocAttr]<;>with_reducible rfl) (e:z=p:=by omega):ae dD anns (⟨some d,none,.fW size x i⟩::l) env c K Rp:=ae.e4 ab ai ag e aC
theorem D.ei {u:UInt8}{d:Nat}{a:List UInt8}(ag:a[p]? =some u) (aC:ae dD anns l ((d,.int .u8 u.toNat)::env) c K Rp) (ab:bp env x= .str a:=by simp (disch:=omega) only[go_sem,simprocAttr]<;>with_reducible rfl) (ai:bp env i= .int ik z:=by simp (disch:=omega) only[go_sem,simprocAttr]<;>with_reducible rfl) (e:z=p:=by omega):ae dD anns (⟨some d,none,.eJ x i⟩::l) env c K Rp:=ae.e5 ab ai ag e aC
theorem D.F (s:bt){dz:List I}{gd bl1:fe}{gn tl1:fp}{n q:Nat}{c2:a1}(h:bz dD f dz (a1.of n q gd gn) (fJ v bl1 tl1)) (aC:ae dD anns l (env.put d bT) c2 K Rp) (ah:(s.b.length==n&&(s.t.length==q&&(nodupB s.b&&(nodupB s.t&&(s.b.all (fun x=>Nat.blt x c.b7)&&(s.t.all (fun x=>Nat.blt x c.bF)&&(dr n q dz&&(dP n q gd&&(dV n q gn&&(dP n q bl1&&(dV n q tl1&&v.cR n q)))))))))))=true:=by simp (disch:=omega) only[go_sem,simprocAttr]<;>rfl) (dX:lX c.H.aU s gd:=by repeat first|exact trivial|refine⟨rfl,?_⟩) (c4:nJ c.H.tok s gn:=by repeat first|exact trivial|refine⟨rfl,?_⟩) (aP:args.map (bp env)=hB s dz:=by simp (disch:=omega) only[go_sem,simprocAttr]<;>rfl) (af:v.eF s=bT:=by simp (disch:=omega) only[go_sem,simprocAttr]<;>with_reducible rfl) (hu:c.mM s bl1 tl1=c2:=by simp (disch:=omega) only[go_sem,simprocAttr]<;>with_reducible rfl):ae dD anns (⟨d,none,.call f args⟩::l) env c K Rp:=by
  subst af hu
  exact ae.pM s h ah dX c4 aP aC
theorem D.P {d:Nat}{az dz:List I}{r:I}(h:Pure dD f az r) (aC:ae dD anns l ((d,r)::env) c K Rp) (aP:args.map (bp env)=dz:=by simp (disch:=omega) only[go_sem,simprocAttr]<;>with_reducible rfl) (hw:jU dz=az:=by rfl) (aW:b3 az=true:=by simp (disch:=omega) only[go_sem,simprocAttr]<;>rfl) (ag:r.flat=true:=by simp (disch:=omega) only[go_sem,simprocAttr]<;>rfl):ae dD anns (⟨some d,none,.call f args⟩::l) env c K Rp:=ae.ar7 h aP hw aW ag aC
theorem D.df {az dz:List I}{r:I}(h:Pure dD f az r) (aC:ae dD anns l (env.put d r) c K Rp) (aP:args.map (bp env)=dz:=by simp (disch:=omega) only[go_sem,simprocAttr]<;>with_reducible rfl) (hw:jU dz=az:=by rfl) (aW:b3 az=true:=by simp (disch:=omega) only[go_sem,simprocAttr]<;>rfl) (ag:r.flat=true:=by simp (disch:=omega) only[go_sem,simprocAttr]<;>rfl):ae dD (r::anns) (⟨d,none,.hz f args⟩::l) env c K Rp:=ae.np rfl h (by rw[aP,hw]) aW ag aC
theorem D.V {d:Nat}{az dz cap:List I}{r:I}(aW:c9 dD f=true) (h:Pure dD f az r) (aC:ae dD anns l ((d,r)::env) c K Rp) (ab:bp env x= .fn f cap:=by simp (disch:=omega) only[go_sem,simprocAttr]<;>with_reducible rfl) (aP:args.map (bp env)++cap=dz:=by simp (disch:=omega) only[go_sem,simprocAttr]<;>with_reducible rfl) (hw:jU dz=az:=by rfl) (aH:b3 az=true:=by simp (disch:=omega) only[go_sem,simprocAttr]<;>rfl) (ag:r.flat=true:=by simp (disch:=omega) only[go_sem,simprocAttr]<;>rfl):ae dD anns (⟨some d,none,.fw x args⟩::l) env c K Rp:=ae.SB rfl ab aW (bz.NK h aH ag hw) aP aC
theorem D.S6 {az dz cap:List I}{r:I}(aW:c9 dD f=true) (h:Pure dD f az r) (aC:ae dD anns l (env.put d r) c K Rp) (ab:bp env x= .fn f cap:=by simp (disch:=omega) only[go_sem,simprocAttr]<;>with_reducible rfl) (aP:args.map (bp env)++cap=dz:=by simp (disch:=omega) only[go_sem,simprocAttr]<;>with_reducible rfl) (hw:jU dz=az:=by rfl) (aH:b3 az=true:=by simp (disch:=omega) only[go_sem,simprocAttr]<;>rfl) (ag:r.flat=true:=by simp (disch:=omega) only[go_sem,simprocAttr]<;>rfl):ae dD (r::anns) (⟨d,none,.jq x args⟩::l) env c K Rp:=ae.aq2 rfl ab aW h (by rw[aP,hw]) aH ag aC
end
end Go.bc
namespace Go.bc
open Go
section
variable {P:Program}{aL:List bk}{cD t0:Nat}{k:List ga}{Q:Out→a1→Prop}{env:Env}{c c1:a1}{v:I}
def s8 (k:List ga):Bool:=k.all fun i=>match i with
  | .h8 _ _=>false
  | _=>true
theorem EN {H0:aA}{du:bt}: ∀ {k:List ga},s8 k=true→(k.map (ga.ma H0 du)).all (fun i=>match i with| .round _ _=>false| _=>true)=true
  |[],_=>rfl
  | .c e::k,h=>by
    simp only[s8,List.all_cons,Bool.true_and]at h
    simp only[List.map_cons,List.all_cons,ga.ma,Bool.true_and]
    exact EN h
  | .aU i::k,h=>by
    simp only[s8,List.all_cons,Bool.true_and]at h
    simp only[List.map_cons,List.all_cons,ga.ma,Bool.true_and]
    exact EN h
  | .h8 _ _::k,h=>by simp [s8]at h
def wq (P:Program) (f:FuncId) (gr:List I) (x:I) (c:a1) (uY:a1→Prop):Prop:=
  ∀H0 s yp cY H,bs s gr yp→aN s x cY→eW H0 s c H→tE P f yp cY H fun dk=> ∃bM c1,bt.et s bM∧uY c1∧eW H0 bM c1 dk
def tmpsOf (bb:Env) (kt:Env):Env:=kt.map fun p=>(p.1,bb.get p.1)
theorem Gi (bb:Env): ∀(kt:Env) (j:Nat),(tmpsOf bb kt).get j=bb.get j∨((tmpsOf bb kt).get j= .ew∧kt.get j= .ew)
  |[],_=> .inr ⟨rfl,rfl⟩
  |(i,v)::kt,j=>by
   simp only[tmpsOf,List.map_cons,Env.get]
   cases e:i==j with
   |true=>
    have:i=j:=by simpa using e
    subst this
    exact .inl rfl
   |false=>exact Gi bb kt j
theorem MD {env:Env}: ∀(kt:Env),(∀p∈kt,env.get p.1=p.2)→∀j,kt.get j=env.get j∨kt.get j= .ew
  |[],_,_=> .inr rfl
  |(i,v)::kt,h,j=>by
   simp only[Env.get]
   cases e:i==j with
   |true=>
    have:i=j:=by simpa using e
    subst this
    exact .inl (h (i,v) List.mem_cons_self).symm
   |false=>exact MD kt (fun q bG=>h q (List.mem_cons_of_mem _ bG)) j
theorem aN.ew (s:bt) (x:I):aN s .ew x:=by simp only[aN]
def zk (t:Nat) (k:List ga):Bool:=k.all fun i=>match i with
  | .c e=>e.kl t
  | .aU _=>true
  | .h8 _ _=>false
theorem EP {H0:aA}{du:bt}{t:Nat}: ∀ {k:List ga},zk t k=true→(k.map (ga.ma H0 du)).all (Item.kl t)=true
  |[],_=>rfl
  | .c e::k,h=>by
    simp only[zk,List.all_cons,Bool.and_eq_true]at h
    simp only[List.map_cons,List.all_cons,ga.ma,Bool.and_eq_true]
    exact⟨h.1,EP h.2⟩
  | .aU i::k,h=>by
    simp only[zk,List.all_cons,Bool.true_and]at h
    simp only[List.map_cons,List.all_cons,ga.ma,Bool.and_eq_true]
    exact⟨rfl,EP h⟩
  | .h8 _ _::k,h=>by simp [zk]at h
theorem EO {H0:aA}{du s1:bt}: ∀ {k:List ga},s8 k=true→k.map (ga.ma H0 du)=k.map (ga.ma H0 s1)
  |[],_=>rfl
  | .c e::k,h=>by
    simp only[s8,List.all_cons,Bool.true_and]at h
    simp only[List.map_cons,ga.ma]
    rw[EO h]
  | .aU i::k,h=>by
    simp only[s8,List.all_cons,Bool.true_and]at h
    simp only[List.map_cons,ga.ma]
    rw[EO h]
  | .h8 _ _::k,h=>by simp [s8]at h
theorem tE.mono {f:FuncId}{gr:List I}{x:I}{H:aA}{yl uY:aA→Prop}(h:tE P f gr x H yl) (bG: ∀aF,yl aF→uY aF):tE P f gr x H uY:=fun m ay kg J aa au bn=>
  (h m ay kg J aa au bn).mono fun e q9 w' ⟨g1,g2,aF,gb,cQ,g3,g4,g5⟩=>⟨g1,g2,aF,gb,cQ,g3,g4,bG aF g5⟩
end
end Go.bc
namespace Go.bc
open Go
mutual
theorem yF {p:bt}: ∀(a:I),a.flat=true→a.eF p=a
  | .agg cs,h=>by simp only[I.flat]at h; simp only[I.eF,A2 cs h]
  | .di cs,h=>by simp only[I.flat]at h; simp only[I.eF,A2 cs h]
  | .fn _ cs,h=>by simp only[I.flat]at h; simp only[I.eF,A2 cs h]
  | .gW _ v,h=>by simp only[I.flat]at h; simp only[I.eF,yF v h]
  | .own _ _ _,h=>by simp [I.flat]at h
  | .ptr _ _,h=>by simp [I.flat]at h
  | .ez _ _,h=>by simp [I.flat]at h
  | .mp _ _ _,h=>by simp [I.flat]at h
  | .ew,_=>rfl
  | .bool _,_=>rfl
  | .int _ _,_=>rfl
  | .str _,_=>rfl
  | .dQ _,_=>rfl
  | .ay _ _,_=>rfl
  | .dO _ _,_=>rfl
theorem A2 {p:bt}: ∀(l:List I),b3 l=true→hB p l=l
  |[],_=>rfl
  |a::l,h=>by simp only[b3,Bool.and_eq_true]at h; simp only[hB,yF a h.1,A2 l h.2]
end
mutual
theorem yE {n t:Nat}: ∀(a:I),a.flat=true→a.cR n t=true
  | .agg cs,h=>by simp only[I.flat]at h; simp only[I.cR,A1 cs h]
  | .di cs,h=>by simp only[I.flat]at h; simp only[I.cR,A1 cs h]
  | .fn _ cs,h=>by simp only[I.flat]at h; simp only[I.cR,A1 cs h]
  | .gW _ v,h=>by simp only[I.flat]at h; simp only[I.cR,yE v h]
  | .own _ _ _,h=>by simp [I.flat]at h
  | .ptr _ _,h=>by simp [I.flat]at h
  | .ez _ _,h=>by simp [I.flat]at h
  | .mp _ _ _,h=>by simp [I.flat]at h
  | .ew,_=>rfl
  | .bool _,_=>rfl
  | .int _ _,_=>rfl
  | .str _,_=>rfl
  | .dQ _,_=>rfl
  | .ay _ _,h=>by simpa only[I.flat,I.cR] using h
  | .dO _ _,h=>by simpa only[I.flat,I.cR] using h
theorem A1 {n t:Nat}: ∀(l:List I),b3 l=true→dr n t l=true
  |[],_=>rfl
  |a::l,h=>by simp only[b3,Bool.and_eq_true]at h; simp only[dr,yE a h.1,A1 l h.2,Bool.and_self]
end
def uZ (x:I):Out→a1→Prop:=fun o _=>o= .eR x
section
variable {P:Program}{aL:List bk}{cD t0:Nat}{k:List ga}{Q:Out→a1→Prop}{env:Env}{c:a1}{anns:List I}{l:List bP}{K:Env→a1→Prop}{Rp:I→a1→Prop}{f:FuncId}{args:List aK}{az dz:List I}
theorem bz.DN (p:bt){gd:fe}{gn:fp}{n t:Nat}{x:I}(h:bz P f dz (a1.of n t gd gn) (uZ x)) (a6:p.b.length=n) (aO:p.t.length=t)
    (bw:(nodupB p.b&&nodupB p.t&&p.b.all (fun x=>Nat.blt x c.b7)&&p.t.all (fun x=>Nat.blt x c.bF))=true) (dX:lX c.H.aU p gd) (c4:nJ c.H.tok p gn) (hb:(dr n t dz&&(dP n t gd&&dV n t gn))=true)
    (ab:x.cR n t=true) (ag:x.eF p=x){az:List I}(aP:az=hB p dz):bz P f az c (fun o cB=>o= .eR x∧cB=c.mM p [] []):=by
  simp only[Bool.and_eq_true,List.all_eq_true]at bw
  obtain⟨⟨⟨d1,d2⟩,d3⟩,d4⟩:=bw
  subst aP
  refine bz.frame p h a6 aO (by rw[d1,d2]; rfl) (fun i x e=>mS (d3 x (List.mem_of_getElem? e))) (fun i x e=>mS (d4 x (List.mem_of_getElem? e))) hb dX c4 ?_
  rintro o c1 rfl
  refine⟨[],[],trivial,trivial,?_,?_,rfl⟩
  ·simp only[dP,dV,At,ab,Bool.and_self]
  ·simp only[Out.eF,ag]
theorem D.ri {d:Option Nat}(s:bt){gd:fe}{gn:fp}{n q:Nat}{x:I}(h:bz P f dz (a1.of n q gd gn) (uZ x)) (aC: ∀cB,Rp x cB)
    (ah:(s.b.length==n&&(s.t.length==q&&(nodupB s.b&&(nodupB s.t&&(s.b.all (fun x=>Nat.blt x c.b7)&&(s.t.all (fun x=>Nat.blt x c.bF)&&(dr n q dz&&(dP n q gd&&(dV n q gn&&x.cR n q)))))))))=true:=by simp (disch:=omega) only[go_sem,simprocAttr]<;>rfl) (dX:lX c.H.aU s gd:=by repeat first|exact trivial|refine⟨rfl,?_⟩) (c4:nJ c.H.tok s gn:=by repeat first|exact trivial|refine⟨rfl,?_⟩) (aP:args.map (bp env)=hB s dz:=by simp (disch:=omega) only[go_sem,simprocAttr]<;>rfl) (ag:x.eF s=x:=by rfl):ae P anns (⟨d,none,.call f args⟩::l) env c K Rp:=by
  simp only[Bool.and_eq_true,beq_iff_eq]at ah
  obtain⟨c1,c2,gg,iJ,nB,oK,qp,sI,oL,sH⟩:=ah
  refine ae.Dl rfl (bz.DN s h c1 c2 (by rw[gg,iJ,nB,oK]; rfl) dX c4 (by rw[qp,sI,oL]; rfl) sH ag rfl) aP ?_ ?_
  ·rintro v c1 ⟨e,_⟩
   cases e
  ·rintro v c1 ⟨e,_⟩
   cases e
   exact aC _
theorem ak8 (o:Out):Aj o o:=by cases o<;>first|exact eI.refl _|(simp only[Aj]; exact eI.refl _)
theorem aj.dead (j T:Nat) (bq:c.H.tok j=some (.bJ T 0 0)):aj P aL cD t0 k Q env c:=fun H0 du s bb H R a6 aO ap he ag an=>by
  refine cx.conv (fun _ _=>False) ?_ fun _ _ h=>h.elim
  intro m eD bo
  subst eD
  obtain⟨x,i,J,aa,au⟩:=ag.tok j _ bq
  have:=(bo.tok x i aa).2.1
  exact absurd (au.2.1.trans rfl) this
theorem iU.V1 {others:List Nat}{x jP:I}{c2:a1}(h:bz P f (args.map (bp env)) c (fun o cB=>o= .eR x∧cB=c2)) (Ep:jP.flat=true) (a6:c2.b7=c.b7) (aO:c2.bF=c.bF) (aq: ∀s∈others,∃bX cQ c3,env.get s= .ptr bX 0∧c.H.aU bX=some (cQ,c3)∧c2.H.aU bX=some (cQ,c3)∧kq c3=true):iU P (.hM others f args) env c (fun bT cB=>bT=jP∧cB=c.ig (.bJ 0 0 0)) (fun bT cB=>bT=x∧cB=c2):=fun H0 s bb H K iW he ag dv hO=>by
  have qH: ∀ {bM:bt}{aF:aA},bt.et s bM→eW H0 bM c2 aF→bM=s:=fun cI gw=>cI.eq (by rw[←gw.b7,a6,ag.b7]) (by rw[←gw.bF,aO,ag.bF])
  have J:=h H0 s _ H (mU he args) ag
  refine .hM (az:=args.map (aK.aJ bb)) (fun o aF=>(∃bM gQ c1,bt.et s bM∧(gQ= .eR x∧c1=c2)∧mQ bM gQ o∧eW H0 bM c1 aF)∨(∃N,H.tok N=none∧o= .ret jP∧aF=H.cA N (.bJ 0 0 0))) (fun j bq=> ?_) (fun eC=> ?_) (e7.tl _) (J.mono fun o aF bG=>⟨o,aF,ak8 o,HSub.refl aF,.inl bG⟩) ?_
  ·obtain⟨bX,cQ,c3,ar,ax,cw,fq⟩:=aq j bq
   have lZ:=he j
   rw[ar]at lZ
   simp only[aN]at lZ
   obtain⟨y,g1,g2⟩:=lZ
   refine⟨y,g2,fun o aF bG=> ?_⟩
   rcases bG with ⟨bM,gQ,c1,cI,⟨_,ep⟩,gw,pb⟩|⟨N,_,_,rfl⟩
   ·subst ep
    have:=qH cI pb
    subst this
    obtain⟨z,aM,bO,b4,cJ⟩:=ag.aU bX cQ c3 ax
    obtain⟨po,dZ,fk,jQ,oz⟩:=pb.aU bX cQ c3 cw
    rw[g1]at bO fk
    cases bO
    cases fk
    rw[b4,jQ,bs.same c3 aM dZ fq cJ oz]
   ·rfl
  ·obtain⟨N,bW⟩:=eC
   refine⟨jP,_,.inr ⟨N,(bW N (Nat.le_refl _)).2,rfl,rfl⟩,N+1,fun m hm=>⟨(bW m (by omega)).1,?_⟩⟩
   simp only[aA.cA]
   rw[if_neg (by omega)]
   exact (bW m (by omega)).2
  ·rintro o aF (⟨bM,gQ,c1,cI,⟨c8,ep⟩,gw,pb⟩|⟨N,aa,rfl,rfl⟩)
   ·subst c8 ep
    cases o with
    |ret v=>simp only[mQ]at gw
    |eR v=>exact hO bM _ v _ aF cI ⟨rfl,rfl⟩ gw pb
   ·exact dv ⟨s.b,s.t++[N]⟩ jP jP (c.ig (.bJ 0 0 0)) _ (bt.l0 s N) ⟨rfl,rfl⟩ ((I.lC jP Ep jP).2 rfl) (ag.ig iV.bJ aa)
theorem D.S1 {others:List Nat}{d:Nat}(s:bt) (jP:I){gd:fe}{gn:fp}{n q:Nat}{x:I}(h:bz P f dz (a1.of n q gd gn) (uZ x)) (vw:ae P anns l ((d,jP)::env) (c.ig (.bJ 0 0 0)) K Rp) (aC: ∀cB,Rp x cB) (aq: ∀t∈others,∃bX cQ c3,env.get t= .ptr bX 0∧c.H.aU bX=some (cQ,c3)∧(c.mM s [] []).H.aU bX=some (cQ,c3)∧kq c3=true)
    (Ep:jP.flat=true:=by simp (disch:=omega) only[go_sem,simprocAttr]<;>rfl)
    (ah:(s.b.length==n&&(s.t.length==q&&(nodupB s.b&&(nodupB s.t&&(s.b.all (fun x=>Nat.blt x c.b7)&&(s.t.all (fun x=>Nat.blt x c.bF)&&(dr n q dz&&(dP n q gd&&(dV n q gn&&x.cR n q)))))))))=true:=by simp (disch:=omega) only[go_sem,simprocAttr]<;>rfl) (dX:lX c.H.aU s gd:=by repeat first|exact trivial|refine⟨rfl,?_⟩) (c4:nJ c.H.tok s gn:=by repeat first|exact trivial|refine⟨rfl,?_⟩) (aP:args.map (bp env)=hB s dz:=by simp (disch:=omega) only[go_sem,simprocAttr]<;>rfl) (ag:x.eF s=x:=by rfl):ae P anns (⟨some d,none,.hM others f args⟩::l) env c K Rp:=by
  simp only[Bool.and_eq_true,beq_iff_eq]at ah
  obtain⟨c1,c2,gg,iJ,nB,oK,qp,sI,oL,sH⟩:=ah
  have eC:bz P f (args.map (bp env)) c (fun o cB=>o= .eR x∧cB=c.mM s [] []):=by
    rw[aP]
    exact bz.DN s h c1 c2 (by rw[gg,iJ,nB,oK]; rfl) dX c4 (by rw[qp,sI,oL]; rfl) sH ag rfl
  refine ae.vQ (S:=fun bT cB=>bT=jP∧cB=c.ig (.bJ 0 0 0)) rfl rfl (iU.mono (iU.V1 (others:=others) eC Ep rfl rfl aq) (fun _ _ h=>h) fun v cB e=> ?_) fun bT cB e=> ?_
  ·rw[e.1]
   exact aC _
  ·rw[e.1,e.2]
   exact vw
end
end Go.bc
