/- Part of a proof; own work. -/
import Derived.Test.YtlemhelnmidpfaaGreatDoorProg
import Derived.Test.YtlemhelnmidpfaaGreatDoorQS3
set_option linter.unusedVariables false
set_option linter.unusedSimpArgs false
namespace Go.aO
open Go
section
variable {P:Program}{aS:List bc}{c8 t0:Nat}{k:List gm}{Q:Out→aQ→Prop}{env:Env}{c c1:aQ}{v:I}
theorem yS.mono {f:FuncId}{hA:List I}{x:I}{c:aQ}{AD xp:aQ→Prop}(h:yS P f hA x c AD) (bw: ∀cV,AD cV→xp cV):yS P f hA x c xp:=fun H0 s AP c9 H U aa ay=>
  vR.mono (h H0 s AP c9 H U aa ay) fun dQ ⟨b5,c1,g1,g2,g3⟩=>⟨b5,c1,g1,bw c1 g2,g3⟩
theorem av.ab9 {d:Nat}{f:FuncId}{cap:List aJ}(Qp:I→aQ→Prop) (kt:Env) (Eh: ∀p∈kt,env.get p.1=p.2) (ao4: ∀p∈kt,d≠p.1) (ao6: ∀p∈kt,Cd p.1 k=true)
    (hf:di P f=true) (hid: ∀hA:List I,hA.length=cap.length→CZ P f hA) (aw:vn k=true)
    (hp: ∀x c1,Qp x c1→yS P f (cap.map (bp env)) x c1 fun ci=> ∃v,pY aS kt ci.H=some v∧Q (.ret v) ci)
    (h:av P aS c.b4 c.bj k (fun o c=>match o with| .ret v=>Q (.ret v) c| .e5 x=>Qp x c) ((d,.fn f (cap.map (bp env)))::env) c):av P aS c8 t0 (.c (.uG d f cap)::k) Q env c:=fun H0 eP s bd H R aW ht hs he ac ak=>by
  have Hy:iA s ((d,.fn f (cap.map (bp env)))::env) ((d,.fn f (cap.map (aJ.aI bd)))::bd):=he.put (by simp only[aN]; exact⟨_,rfl,oQ he cap⟩) (some d)
  have an0:iA s kt (tmpsOf bd kt):=fun j=>by
    rcases JI bd kt j with e|⟨_,e⟩
    ·rw[e]
     exact iA.As (Qe kt Eh) he j
    ·rw[e]
     exact aN.eX _ _
  refine .uG (fun o aB=>match o with
    | .ret x=>R (.ret x) aB
    | .e5 c9=> ∃b5 x c1,bC.e8 eP b5∧bC.e8 s b5∧Qp x c1∧aN b5 x c9∧fi H0 b5 c1 aB) (tmpsOf bd kt) (fun j=> ?_) (fun p hp=> ?_) (fun p hp=> ?_) (Im aw) hf (hid _ (List.length_map _)) (fun v aB h=>h) (fun c9 aB ab=> ?_) ?_
  ·rcases JI bd kt j with e|⟨e,_⟩<;>rw[e]
   ·exact bh.refl _
   ·exact bh.eX _
  ·obtain⟨q,bw,rfl⟩:=List.mem_map.1 hp
   exact Ip (ao6 q bw)
  ·obtain⟨q,bw,rfl⟩:=List.mem_map.1 hp
   exact ao4 q bw
  ·obtain⟨b5,x,c1,fb,b0,cN,du,gE⟩:=ab
   refine vR.mono (hp x c1 cN H0 b5 _ c9 aB (bk.mono b0 _ _ (oQ he cap)) du gE) fun dQ ⟨s2,ci,g1,⟨v,g2,g3⟩,g4⟩=> ?_
   obtain⟨bI,U,aa⟩:=Gb (an0.mono (b0.trans g1)) g4 g2
   exact⟨bI,U,ak s2 (.ret v) (.ret bI) ci dQ (fb.trans g1) g3 aa g4⟩
  ·rw[Io (s1:=s) aw]
   refine h H0 s s _ H _ ac.b4.symm ac.bj.symm (bC.e8.refl s) Hy ac fun b5 o o' c1 aB b0 cN du gE=> ?_
   cases o with
   |ret x=>
    cases o' with
    |ret c9=>exact ak b5 (.ret x) (.ret c9) c1 aB (hs.trans b0) cN du gE
    |e5 c9=>cases du
   |e5 x=>
    cases o' with
    |ret c9=>cases du
    |e5 c9=>exact⟨b5,x,c1,hs.trans b0,b0,cN,du,gE⟩
end
section
variable {P:Program}{env:Env}{c:aQ}{anns:List I}{l:List bY}{K:Env→aQ→Prop}{Rp:I→aQ→Prop}{f:FuncId}{args:List aJ}{eg:List I}
theorem D.Ks {d:Option Nat}(s:bC){fX:fl}{fZ:fm}{n q:Nat}{x:I}(h:aY P f eg (aQ.of n q fX fZ) (th x)) (aw:Rp x (c.li s [] []))
    (aq:(s.b.length==n&&(s.t.length==q&&(nodupB s.b&&(nodupB s.t&&(s.b.all (fun x=>Nat.blt x c.b4)&&(s.t.all (fun x=>Nat.blt x c.bj)&&(ed n q eg&&(fA n q fX&&(fB n q fZ&&x.dW n q)))))))))=true:=by simp (disch:=omega) only[go_sem,simprocAttr]<;>rfl) (fa:ox c.H.aZ s fX:=by repeat first|exact trivial|refine⟨rfl,?_⟩) (dF:oy c.H.tok s fZ:=by repeat first|exact trivial|refine⟨rfl,?_⟩) (aL:args.map (bp env)=fw s eg:=by simp (disch:=omega) only[go_sem,simprocAttr]<;>rfl) (ac:x.fh s=x:=by rfl):au P anns (⟨d,none,.call f args⟩::l) env c K Rp:=by
  simp only[Bool.and_eq_true,beq_iff_eq]at aq
  obtain⟨c1,ci,fc,ha,k6,ls,oo,ph,nl,nk⟩:=aq
  refine au.AV rfl (aY.xM s h c1 ci (by rw[fc,ha,k6,ls]; rfl) fa dF (by rw[oo,ph,nl]; rfl) nk ac rfl) aL ?_ ?_
  ·rintro v c1 ⟨e,_⟩
   cases e
  ·rintro v c1 ⟨e,rfl⟩
   cases e
   exact aw
end
end Go.aO
namespace Go.aO
open Go
structure pP (A:Prop):Prop where
  a:A
theorem aj {A B:Prop}(aw:A) (h:pP A→B:=by intro aw; (repeat' first|refine D.S ?_|refine D.jd true true ?_|refine au.nil ?_|refine av.dN ?_|refine D.W ?_|refine D.Z ?_|refine D.X ‹_› ?_|refine D.jY ‹_› ?_|refine D.lo ‹_› ?_); exact aw.a):B:=h ⟨aw⟩
theorem dc {A B:Prop}(aw:A) (h:pP A→B:=by intro aw; (repeat' first|refine D.S ?_|refine au.nil ?_|refine D.W ?_|refine D.Z ?_|refine D.X ‹_› ?_|refine D.jY ‹_› ?_|refine D.lo ‹_› ?_); exact aw.a):B:=h ⟨aw⟩
theorem rU {A B:Prop}(aw:A) (h:pP A→B:=by intro aw; ((repeat refine D.jd true true ?_); (refine av.dN ?_); (repeat' first|refine D.S ?_|refine au.nil ?_|refine D.W ?_|refine D.Z ?_|refine D.X ‹_› ?_|refine D.jY ‹_› ?_|refine D.lo ‹_› ?_)); exact aw.a):B:=h ⟨aw⟩
theorem bE {A B:Prop}(aw:A) (h:pP A→B:=by intro aw; (repeat' first|(apply au.s rfl; (·simp (disch:=omega) only[go_sem,simprocAttr,ah]<;>with_reducible rfl))|(apply av.s true true; (·simp (disch:=omega) only[go_sem,simprocAttr,ah]<;>with_reducible rfl))|apply au.nil|(refine av.dN ?_)|(apply au.gw; (·simp (disch:=omega) only[go_sem,simprocAttr,ah]<;>with_reducible rfl))|(apply au.gx; (·rfl); (·simp (disch:=omega) only[go_sem,simprocAttr,ah]<;>with_reducible rfl))|((first|apply au.gz|apply au.gA|apply au.gB); (·simp (disch:=omega) only[go_sem,simprocAttr,ah]<;>with_reducible rfl); (·simp (disch:=omega) only[go_sem,simprocAttr,ah]<;>with_reducible rfl); (·assumption); (·omega))); exact aw.a):B:=h ⟨aw⟩
theorem yV {A B:Prop}(aw:A) (h:pP A→B:=by intro aw; (repeat' first|(apply au.s rfl; (·simp (disch:=omega) only[go_sem,simprocAttr,ah]<;>with_reducible rfl))|(apply av.s true false; (·simp (disch:=omega) only[go_sem,simprocAttr,ah]<;>with_reducible rfl))|apply au.nil|(refine av.dN ?_)|(apply au.gw; (·simp (disch:=omega) only[go_sem,simprocAttr,ah]<;>with_reducible rfl))|(apply au.gx; (·rfl); (·simp (disch:=omega) only[go_sem,simprocAttr,ah]<;>with_reducible rfl))|((first|apply au.gz|apply au.gA|apply au.gB); (·simp (disch:=omega) only[go_sem,simprocAttr,ah]<;>with_reducible rfl); (·simp (disch:=omega) only[go_sem,simprocAttr,ah]<;>with_reducible rfl); (·assumption); (·omega))); exact aw.a):B:=h ⟨aw⟩
theorem Ay {A B:Prop}(aw:A) (h:pP A→B:=by intro aw; (repeat' first|(apply au.s rfl; (·simp (disch:=omega) only[go_sem,simprocAttr,ah]<;>with_reducible rfl))|apply au.nil|(apply au.gw; (·simp (disch:=omega) only[go_sem,simprocAttr,ah]<;>with_reducible rfl))|(apply au.gx; (·rfl); (·simp (disch:=omega) only[go_sem,simprocAttr,ah]<;>with_reducible rfl))|((first|apply au.gz|apply au.gA|apply au.gB); (·simp (disch:=omega) only[go_sem,simprocAttr,ah]<;>with_reducible rfl); (·simp (disch:=omega) only[go_sem,simprocAttr,ah]<;>with_reducible rfl); (·assumption); (·omega))); exact aw.a):B:=h ⟨aw⟩
theorem Ku {A B:Prop}(aw:A) (h:pP A→B:=by intro aw; ((repeat (apply av.s true true; (·simp (disch:=omega) only[go_sem,simprocAttr,ah]<;>with_reducible rfl))); (refine av.dN ?_); (repeat' first|(apply au.s rfl; (·simp (disch:=omega) only[go_sem,simprocAttr,ah]<;>with_reducible rfl))|apply au.nil|(apply au.gw; (·simp (disch:=omega) only[go_sem,simprocAttr,ah]<;>with_reducible rfl))|(apply au.gx; (·rfl); (·simp (disch:=omega) only[go_sem,simprocAttr,ah]<;>with_reducible rfl))|((first|apply au.gz|apply au.gA|apply au.gB); (·simp (disch:=omega) only[go_sem,simprocAttr,ah]<;>with_reducible rfl); (·simp (disch:=omega) only[go_sem,simprocAttr,ah]<;>with_reducible rfl); (·assumption); (·omega)))); exact aw.a):B:=h ⟨aw⟩
theorem Kt {A B:Prop}(aw:A) (h:pP A→B:=by intro aw; (repeat (apply av.s true true; (·simp (disch:=omega) only[go_sem,simprocAttr,ah]<;>with_reducible rfl))); exact aw.a):B:=h ⟨aw⟩
theorem eM {A B:Prop}(aw:A) (h:pP A→B:=by intro aw; (repeat' first|(apply au.s rfl; (·simp (disch:=omega) only[go_sem,simprocAttr,ah,z2]<;>with_reducible rfl))|(apply av.s true true; (·simp (disch:=omega) only[go_sem,simprocAttr,ah,z2]<;>with_reducible rfl))|apply au.nil|(refine av.dN ?_)|(apply au.gw; (·simp (disch:=omega) only[go_sem,simprocAttr,ah,z2]<;>with_reducible rfl))|(apply au.gx; (·rfl); (·simp (disch:=omega) only[go_sem,simprocAttr,ah,z2]<;>with_reducible rfl))|((first|apply au.gz|apply au.gA|apply au.gB); (·simp (disch:=omega) only[go_sem,simprocAttr,ah,z2]<;>with_reducible rfl); (·simp (disch:=omega) only[go_sem,simprocAttr,ah,z2]<;>with_reducible rfl); (·assumption); (·omega))); exact aw.a):B:=h ⟨aw⟩
theorem V8 {A B:Prop}(aw:A) (h:pP A→B:=by intro aw; (repeat' first|(apply au.s rfl; (·simp (disch:=omega) only[go_sem,simprocAttr,ah,z2]<;>with_reducible rfl))|(apply av.s true false; (·simp (disch:=omega) only[go_sem,simprocAttr,ah,z2]<;>with_reducible rfl))|apply au.nil|(refine av.dN ?_)|(apply au.gw; (·simp (disch:=omega) only[go_sem,simprocAttr,ah,z2]<;>with_reducible rfl))|(apply au.gx; (·rfl); (·simp (disch:=omega) only[go_sem,simprocAttr,ah,z2]<;>with_reducible rfl))|((first|apply au.gz|apply au.gA|apply au.gB); (·simp (disch:=omega) only[go_sem,simprocAttr,ah,z2]<;>with_reducible rfl); (·simp (disch:=omega) only[go_sem,simprocAttr,ah,z2]<;>with_reducible rfl); (·assumption); (·omega))); exact aw.a):B:=h ⟨aw⟩
theorem oi {A B:Prop}(aw:A) (h:pP A→B:=by intro aw; ((repeat (apply av.s true true; (·simp (disch:=omega) only[go_sem,simprocAttr,ah,z2]<;>with_reducible rfl))); (refine av.dN ?_); (repeat' first|(apply au.s rfl; (·simp (disch:=omega) only[go_sem,simprocAttr,ah,z2]<;>with_reducible rfl))|apply au.nil|(apply au.gw; (·simp (disch:=omega) only[go_sem,simprocAttr,ah,z2]<;>with_reducible rfl))|(apply au.gx; (·rfl); (·simp (disch:=omega) only[go_sem,simprocAttr,ah,z2]<;>with_reducible rfl))|((first|apply au.gz|apply au.gA|apply au.gB); (·simp (disch:=omega) only[go_sem,simprocAttr,ah,z2]<;>with_reducible rfl); (·simp (disch:=omega) only[go_sem,simprocAttr,ah,z2]<;>with_reducible rfl); (·assumption); (·omega)))); exact aw.a):B:=h ⟨aw⟩
theorem C2 {A B:Prop}(aw:A) (h:pP A→B:=by intro aw; (repeat (apply av.s true true; (·simp (disch:=omega) only[go_sem,simprocAttr,ah,z2]<;>with_reducible rfl))); exact aw.a):B:=h ⟨aw⟩
theorem dE {A B:Prop}(aw:A) (h:pP A→B:=by intro aw; (repeat' first|(apply au.s rfl; (·simp (disch:=omega) only[go_sem,simprocAttr,ah,z2,z3]<;>with_reducible rfl))|(apply av.s true true; (·simp (disch:=omega) only[go_sem,simprocAttr,ah,z2,z3]<;>with_reducible rfl))|apply au.nil|(refine av.dN ?_)|(apply au.gw; (·simp (disch:=omega) only[go_sem,simprocAttr,ah,z2,z3]<;>with_reducible rfl))|(apply au.gx; (·rfl); (·simp (disch:=omega) only[go_sem,simprocAttr,ah,z2,z3]<;>with_reducible rfl))|((first|apply au.gz|apply au.gA|apply au.gB); (·simp (disch:=omega) only[go_sem,simprocAttr,ah,z2,z3]<;>with_reducible rfl); (·simp (disch:=omega) only[go_sem,simprocAttr,ah,z2,z3]<;>with_reducible rfl); (·assumption); (·omega))); exact aw.a):B:=h ⟨aw⟩
theorem V9 {A B:Prop}(aw:A) (h:pP A→B:=by intro aw; (repeat' first|(apply au.s rfl; (·simp (disch:=omega) only[go_sem,simprocAttr,ah,z2,z3]<;>with_reducible rfl))|apply au.nil|(apply au.gw; (·simp (disch:=omega) only[go_sem,simprocAttr,ah,z2,z3]<;>with_reducible rfl))|(apply au.gx; (·rfl); (·simp (disch:=omega) only[go_sem,simprocAttr,ah,z2,z3]<;>with_reducible rfl))|((first|apply au.gz|apply au.gA|apply au.gB); (·simp (disch:=omega) only[go_sem,simprocAttr,ah,z2,z3]<;>with_reducible rfl); (·simp (disch:=omega) only[go_sem,simprocAttr,ah,z2,z3]<;>with_reducible rfl); (·assumption); (·omega))); exact aw.a):B:=h ⟨aw⟩
section
variable {P:Program}{env:Env}{c:aQ}{anns:List I}{l:List bY}{K:Env→aQ→Prop}{Rp:I→aQ→Prop}{x y i cJ ad:aJ}{fg H4:IntKind}{z uk:Int}{size:Nat}{rows new:List (List I)}{row:List I}{a b:List UInt8}
theorem D.j0 {d:Nat}(h:au P anns l ((d,.str (a++b))::env) c K Rp) (ab:bp env x= .str a:=by simp (disch:=omega) only[go_sem,simprocAttr]<;>with_reducible rfl) (aV:bp env y= .str b:=by simp (disch:=omega) only[go_sem,simprocAttr]<;>with_reducible rfl) (hb:a.length+b.length≤maxLen:=by simp only[List.length_append,List.length_cons,List.length_nil,maxLen]; omega):au P anns (⟨some d,none,.bin .add x y⟩::l) env c K Rp:=au.Za ab aV hb h
theorem D.hQ {T bytes t d:Nat}(h:au P anns l ((d,.own t size (rows++new))::env) (c.cj t (.bX T size (rows.length+new.length))) K Rp) (ab:bp env x= .own t size rows:=by simp (disch:=omega) only[go_sem,simprocAttr]<;>with_reducible rfl) (ht:c.H.tok t=some (.bX T size rows.length):=by simp (disch:=omega) only[go_sem,simprocAttr]<;>with_reducible rfl) (aV:rowsOf size (bp env y)=some new:=by simp only[rowsOf]<;>simp (disch:=omega) only[go_sem,simprocAttr]<;>with_reducible rfl) (hb:(rows.length+new.length)*bytes≤140737488355328:=by first|omega|(simp only[List.length_map,List.length_drop,List.length_take,List.length_append,List.length_nil,List.length_cons,maxLen]<;>omega)) (hm:rows.length+new.length≤maxLen:=by first|omega|(simp only[List.length_map,List.length_drop,List.length_take,List.length_append,List.length_nil,List.length_cons,maxLen]<;>omega)):au P anns (⟨some d,none,.append T size bytes x y⟩::l) env c K Rp:=au.KV ab ht aV hb hm h
end
end Go.aO
namespace Go.aO
open Go
inductive tg:List (List I)→List (List I)→Prop
  |nil:tg [] []
  |cons {a b:List I}{az bQ:List (List I)}(h:eo a b) (t:tg az bQ):tg (a::az) (b::bQ)
theorem eo.len: ∀ {az bQ:List I},eo az bQ→az.length=bQ.length
  |[],_,h=>by simp only[eo]at h; subst h; rfl
  |a::az,_,h=>by
   simp only[eo]at h
   obtain⟨b,bQ,rfl,_,aa⟩:=h
   simp only[List.length_cons,eo.len aa]
theorem K1 {m:Mem}: ∀ {az bQ:List I}{b o:Nat},eo az bQ→fr m az b o→fr m bQ b o
  |[],_,b,o,h,k=>by simp only[eo]at h; subst h; exact k
  |a::az,_,b,o,h,k=>by
   simp only[eo]at h
   obtain⟨x,xs,rfl,U,aa⟩:=h
   simp only[fr]at k ⊢
   obtain⟨⟨v,ar,ax,bU,dl⟩,gn⟩:=k
   exact⟨⟨v,ar,ax,bU,U m v dl⟩,K1 aa gn⟩
theorem tg.len: ∀ {az bQ:List (List I)},tg az bQ→az.length=bQ.length
  | _,_,.nil=>rfl
  | _,_,.cons _ t=>by simp only[List.length_cons,tg.len t]
theorem tg.US {m:Mem}{size:Nat}: ∀ {az bQ:List (List I)}{b o:Nat},tg az bQ→ef m size az b o→ef m size bQ b o
  | _,_,b,o,.nil,k=>k
  | _,_,b,o,.cons h t,k=>by
    simp only[ef]at k ⊢
    exact⟨by rw[←h.len]; exact k.1,K1 h k.2.1,tg.US t k.2.2⟩
theorem mj {n:Nat}{az bQ:List (List I)}(h:tg az bQ):bh (.af n az) (.af n bQ):=fun m v k=>by
  simp only[aP]at k ⊢
  rw[←h.len]
  obtain⟨a,len,cap,ar,ax,bU,dl⟩:=k
  refine⟨a,len,cap,ar,ax,bU,?_⟩
  rcases dl with e|⟨b,o,gn,mw⟩
  ·exact .inl e
  ·exact .inr ⟨b,o,gn,h.US mw⟩
theorem Pure.le {P:Program}{f:FuncId}{az bQ:List I}{r:I}(h:Pure P f bQ r) (aC:eo az bQ):Pure P f az r:=fun H m af ar ax bU=>h H m af ar ax (eo.Jo aC bU)
section
variable {P:Program}{aS:List bc}{c8 t0:Nat}{k:List gm}{Q:Out→aQ→Prop}{env:Env}{c:aQ}
theorem av.VR (p o size:Nat){T:TypeId}{cs:List I}(hb:c.H.aZ p=some (T,cs)) (ao:cs[o]? =some .aD) (h:av P aS c8 t0 k Q env (c.cp p T (cs.set o (.af size [])))):av P aS c8 t0 k Q env c:=fun H0 eP s bd H R aW ht hs he ac ak=>by
  obtain⟨x,cE,b0,cN,du⟩:=ac.aZ p T cs hb
  have mC:cE[o]? =some .aD:=by
    obtain⟨v,ar,ax⟩:=du.get o _ ao
    simp only[aN]at ax
    rw[ar,ax]
  refine cF.conv (fun cI aB=>cI=bd∧aB=H.cp x T (cE.set o (.af size []))) ?_ ?_
  ·intro m eO be
   subst eO
   obtain⟨l,qf,jC,uV⟩:=be.aZ x T cE cN
   obtain⟨v,sw,oX⟩:=jC.get o _ mC
   have v1:aP m (.af size []) v:=bh.nil m v oX
   have qg:=jC.set o v1
   rw[zO sw]at qg
   have cL:=b9.ju be (w':=m.w) (b:=x) (T:=T) cN rfl rfl rfl rfl (fun _ _=>rfl) qf qg uV
   have ax:=b8.ju be (w':=m.w) (b:=x) (T:=T) (cs:=cE.set o (.af size [])) cN rfl rfl rfl rfl (fun _ _=>rfl)
   exact⟨bd,_,_,_,⟨rfl,rfl⟩,cL,ax,fun j v ae=>aP.aI ax _ _ ae⟩
  ·rintro cI aB ⟨rfl,rfl⟩
   refine h H0 eP s _ _ R aW ht hs he (ac.cp b0 ?_) ak
   have: ∀ {az l:List I}(_:bk s az l) (n:Nat){a v:I},aN s a v→bk s (az.set n a) (l.set n v):=by
     intro az
     induction az with
     |nil=>intro l h n a v _; simp only[bk]at h; subst h; simp [bk]
     |cons a az bB=>
      intro l h n b v ae
      simp only[bk]at h
      obtain⟨w,ws,rfl,U,aa⟩:=h
      cases n with
      |zero=>simp only[List.set_cons_zero,bk]; exact⟨_,_,rfl,ae,aa⟩
      |succ n=>simp only[List.set_cons_succ,bk]; exact⟨_,_,rfl,U,bB aa n ae⟩
   exact this du o ((I.lX _ rfl _).2 rfl)
end
end Go.aO
namespace Go.aO
open Go
def mF (p:List UInt8×Int):List I:=[.str p.1,.int .i64 p.2]
def k9 (s:List UInt8):List (List UInt8×Int)→Option Int
  |[]=>none
  |p::l=>if s=p.1 then some p.2 else k9 s l
theorem Qq (s:List UInt8): ∀l:List (List UInt8×Int),ny s (l.map mF)=some ((k9 s l).map fun n=> .int .i64 n)
  |[]=>rfl
  |p::l=>by
   simp only[List.map_cons,mF,ny,k9]
   by_cases h:s=p.1
   ·rw[if_pos h,if_pos h]
    rfl
   ·rw[if_neg h,if_neg h]
    exact Qq s l
theorem QD (s:List UInt8) (n:Int): ∀l:List (List UInt8×Int),k9 s l=none→l2 s (.int .i64 n) (l.map mF)=some ((l++[(s,n)]).map mF)
  |[],_=>rfl
  |p::l,h=>by
   simp only[k9]at h
   by_cases aw:s=p.1
   ·rw[if_pos aw]at h
    cases h
   ·rw[if_neg aw]at h
    simp only[List.map_cons,mF,l2,if_neg aw,List.cons_append]
    rw[QD s n l h]
    rfl
section
variable {dd:Program}{env:Env}{c:aQ}{anns:List I}{l:List bY}{K:Env→aQ→Prop}{Rp:I→aQ→Prop}{x y u:aJ}{T t ver d:Nat}{s:List UInt8}{m:List (List UInt8×Int)}{n:Int}{g:Option (Nat×Bool)}
theorem D.mk (h:au dd anns l ((d,.c6 c.bj 0)::env) (c.hz (.bb T 0 ([].map mF))) K Rp):au dd anns (⟨some d,none,.mkMap T⟩::l) env c K Rp:=au.u rfl rfl h
theorem D.yg (h:au dd anns l ((d,.cT [.int .i64 ((k9 s m).getD 0),.bool (k9 s m).isSome])::env) c K Rp) (ab:bp env x= .c6 t ver:=by simp (disch:=omega) only[go_sem,simprocAttr]<;>with_reducible rfl) (ht:c.H.tok t=some (.bb T ver (m.map mF)):=by simp (disch:=omega) only[go_sem,simprocAttr]<;>with_reducible rfl) (aV:bp env y= .str s:=by simp (disch:=omega) only[go_sem,simprocAttr]<;>with_reducible rfl):au dd anns (⟨some d,none,.ji true (.int .i64 0) x y⟩::l) env c K Rp:=by
  refine au.u rfl (v:= .cT [.int .i64 ((k9 s m).getD 0),.bool (k9 s m).isSome]) (c1:=c) ?_ h
  simp only[eU,ms,fN,ab,aV,ht,cb.bb,beq_self_eq_true,b7,I.flat,Bool.and_self,cond_true,Qq,Option.map_some,l3,if_true]
  cases k9 s m<;>rfl
theorem D.Qr (h:au dd anns l ((d,.cT [.int .i64 0,.bool false])::env) c K Rp) (ab:bp env x= .ev (.map none):=by simp (disch:=omega) only[go_sem,simprocAttr]<;>with_reducible rfl) (aV:bp env y= .str s:=by simp (disch:=omega) only[go_sem,simprocAttr]<;>with_reducible rfl):au dd anns (⟨some d,none,.ji true (.int .i64 0) x y⟩::l) env c K Rp:=by
  refine au.u rfl (v:= .cT [.int .i64 0,.bool false]) (c1:=c) ?_ h
  simp only[eU,ms,fN,ab,aV,b7,I.flat,Bool.and_self,cond_true,l3,if_true]
  rfl
theorem D.mp (hm:k9 s m=none) (h:au dd anns l env (c.cj t (.bb T ver ((m++[(s,n)]).map mF))) K Rp) (ab:bp env x= .c6 t ver:=by simp (disch:=omega) only[go_sem,simprocAttr]<;>with_reducible rfl) (ht:c.H.tok t=some (.bb T ver (m.map mF)):=by simp (disch:=omega) only[go_sem,simprocAttr]<;>with_reducible rfl) (aV:bp env y= .str s:=by simp (disch:=omega) only[go_sem,simprocAttr]<;>with_reducible rfl) (hu:bp env u= .int .i64 n:=by simp (disch:=omega) only[go_sem,simprocAttr]<;>with_reducible rfl):au dd anns (⟨none,none,.oZ x y u⟩::l) env c K Rp:=by
  refine au.JY rfl (v:= .undef) (c1:=c.cj t (.bb T ver ((m++[(s,n)]).map mF))) ?_ h
  simp only[eU,ms,ab,aV,hu,F9,ht,cb.bb,beq_self_eq_true,I.one,Bool.and_self,cond_true,QD s n m hm,Option.map_some]
end
end Go.aO
namespace Go.aO
open Go
theorem y2 {a b:Nat}(h:a≤b):Nat.ble a b=true:=by rw[Nat.ble_eq]; exact h
section
variable {dd:Program}{env:Env}{c:aQ}{anns:List I}{l:List bY}{K:Env→aQ→Prop}{Rp:I→aQ→Prop}{x y i cJ ad:aJ}{T t ver d p size:Nat}{rows new:List (List I)}{row:List I}{z uk:Int}{fg H4:IntKind}
theorem D.mU (h:au dd anns l ((d,.int .i64 rows.length)::env) c K Rp) (ab:bp env x= .c6 t ver:=by simp (disch:=omega) only[go_sem,simprocAttr]<;>with_reducible rfl) (ht:c.H.tok t=some (.bA T size ver rows):=by simp (disch:=omega) only[go_sem,simprocAttr]<;>with_reducible rfl):au dd anns (⟨some d,none,.iq x⟩::l) env c K Rp:=by
  refine au.u rfl (v:= .int .i64 rows.length) (c1:=c) ?_ h
  simp only[eU,ms,fN,ab,ht,cb.bA,beq_self_eq_true,cond_true,Option.map_some]
theorem D.tT (p:Nat) (hp:p<rows.length) (h:au dd anns l ((d,.mp t ver (p*size))::env) c K Rp) (ab:bp env x= .c6 t ver:=by simp (disch:=omega) only[go_sem,simprocAttr]<;>with_reducible rfl) (ht:c.H.tok t=some (.bA T size ver rows):=by simp (disch:=omega) only[go_sem,simprocAttr]<;>with_reducible rfl) (ad:bp env i= .int fg z:=by simp (disch:=omega) only[go_sem,simprocAttr]<;>with_reducible rfl) (e:z=p:=by omega):au dd anns (⟨some d,none,.jr size x i⟩::l) env c K Rp:=by
  subst e
  refine au.u rfl (v:= .mp t ver (p*size)) (c1:=c) ?_ h
  simp only[eU,ms,fN,ab,ad,ht,cb.bA,beq_self_eq_true,cond_true,Bool.and_self,F4]
  rw[if_pos ⟨by omega,by omega⟩]
  simp
theorem Bd: ∀ {rows:List (List I)}{p size:Nat}{row:List I},(∀r∈rows,r.length=size)→rows[p]? =some row→p*size+size≤rows.flatten.length∧(rows.flatten.drop (p*size)).take size=row
  |[],_,_,_,_,h=>by simp at h
  |r::rows,0,size,row,hs,h=>by
   have ac:=hs r (by simp)
   simp at h
   subst h
   subst ac
   simp
  |r::rows,p+1,size,row,hs,h=>by
   have ac:=hs r (by simp)
   obtain⟨U,aa⟩:=Bd (p:=p) (size:=size) (row:=row) (fun x ab=>hs x (List.mem_cons_of_mem _ ab)) (by simpa using h)
   rw[List.flatten_cons,List.length_append,ac,Nat.add_mul,Nat.one_mul]
   refine⟨by omega,?_⟩
   rw[Nat.add_comm (p*size),←ac,List.drop_length_add_append,ac]
   exact aa
theorem G0: ∀ {rows:List (List I)}{p size:Nat}{row new:List I},(∀r∈rows,r.length=size)→rows[p]? =some row→new.length=size→chunks size rows.length (gj rows.flatten (p*size) new)=rows.set p new
  |[],_,_,_,_,_,h,_=>by simp at h
  |r::rows,0,size,row,new,hs,h,aW=>by
   have ac:=hs r (by simp)
   have aq: ∀rows:List (List I),(∀r∈rows,r.length=size)→chunks size rows.length rows.flatten=rows:=by
     intro rows
     induction rows with
     |nil=>intro _; rfl
     |cons r rows bB=>
      intro hs
      have ac:=hs r (by simp)
      simp only[List.length_cons,chunks,List.flatten_cons]
      rw[List.take_append_of_le_length (by omega),List.take_of_length_le (by omega),←ac,List.drop_left,ac,bB fun x ab=>hs x (by simp [ab])]
   simp only[List.length_cons,chunks,List.flatten_cons,gj,Nat.zero_mul,List.take_zero,List.nil_append,Nat.zero_add,List.set_cons_zero]
   rw[aW,←ac,List.drop_left,ac,List.take_append_of_le_length (by omega),List.take_of_length_le (by omega),←aW,List.drop_left,aW,aq rows fun x ab=>hs x (by simp [ab])]
  |r::rows,p+1,size,row,new,hs,h,aW=>by
   have ac:=hs r (by simp)
   have bB:=G0 (p:=p) (size:=size) (row:=row) (new:=new) (fun x ab=>hs x (List.mem_cons_of_mem _ ab)) (by simpa using h) aW
   have e:gj (r::rows).flatten ((p+1)*size) new=r++gj rows.flatten (p*size) new:=by
     unfold gj
     rw[List.flatten_cons,Nat.add_mul,Nat.one_mul,Nat.add_comm (p*size),←ac,List.take_length_add_append,show r.length+p*r.length+new.length=r.length+(p*r.length+new.length) by omega,List.drop_length_add_append]
     simp only[List.append_assoc]
   rw[e]
   simp only[List.length_cons,chunks,List.set_cons_succ]
   rw[List.take_append_of_le_length (by omega),List.take_of_length_le (by omega),←ac,List.drop_left,ac,bB]
theorem D.zN {agg:Bool}{v:I}(ac:rows[p]? =some row) (hs: ∀r∈rows,r.length=size) (h:au dd anns l ((d,v)::env) c K Rp) (ab:bp env x= .mp t ver (p*size):=by simp (disch:=omega) only[go_sem,simprocAttr]<;>with_reducible rfl) (ht:c.H.tok t=some (.bA T size ver rows):=by simp (disch:=omega) only[go_sem,simprocAttr]<;>with_reducible rfl) (ae:I.js agg row=some v:=by simp (disch:=omega) only[go_sem,simprocAttr]<;>rfl):au dd anns (⟨some d,none,.j5 agg size x⟩::l) env c K Rp:=by
  obtain⟨U,aa⟩:=Bd hs ac
  refine au.u rfl (v:=v) (c1:=c) ?_ h
  simp only[eU,ms,fN,ab,ht,cb.bA,beq_self_eq_true,cond_true,Ga]
  rw[if_pos U,aa,ae]
  rfl
theorem D.stM {v:I}(ac:rows[p]? =some row) (hs: ∀r∈rows,r.length=size) (h:au dd anns l env (c.cj t (.bA T size ver (rows.set p v.cells))) K Rp) (ab:bp env x= .mp t ver (p*size):=by simp (disch:=omega) only[go_sem,simprocAttr]<;>with_reducible rfl) (ht:c.H.tok t=some (.bA T size ver rows):=by simp (disch:=omega) only[go_sem,simprocAttr]<;>with_reducible rfl) (aV:bp env y=v:=by simp (disch:=omega) only[go_sem,simprocAttr]<;>with_reducible rfl) (ae:(v.fk&&(v.cells.length==size&&v.cells.all I.one))=true:=by simp (disch:=omega) only[go_sem,simprocAttr]<;>rfl):au dd anns (⟨none,none,.store size x y⟩::l) env c K Rp:=by
  obtain⟨U,aa⟩:=Bd hs ac
  simp only[Bool.and_eq_true,beq_iff_eq]at ae
  obtain⟨v1,v2,v3⟩:=ae
  have aC:rows.flatten.length=rows.length*size:=Cw hs
  refine au.JY rfl (v:= .undef) (c1:=c.cj t (.bA T size ver (rows.set p v.cells))) ?_ h
  simp only[eU,ms,ab,aV,zi,ht,cb.bA,beq_self_eq_true,v1,v2,v3,aC,Bool.and_self,Bool.true_and,Bool.and_true,y2 (aC▸U:p*size+size≤rows.length*size),cond_true]
  rw[G0 hs ac v2]
theorem D.Da {bytes:Nat}(h:au dd anns l ((d,.c6 t (ver+1))::env) (c.cj t (.bA T size (ver+1) (rows++new))) K Rp) (ab:bp env x= .c6 t ver:=by simp (disch:=omega) only[go_sem,simprocAttr]<;>with_reducible rfl) (ht:c.H.tok t=some (.bA T size ver rows):=by simp (disch:=omega) only[go_sem,simprocAttr]<;>with_reducible rfl) (aV:rowsOf size (bp env y)=some new:=by simp only[rowsOf]<;>simp (disch:=omega) only[go_sem,simprocAttr]<;>with_reducible rfl) (hb:(rows.length+new.length)*bytes≤140737488355328:=by simp only[List.length_map,List.length_append,List.length_cons,List.length_nil]<;>omega) (hm:rows.length+new.length≤maxLen:=by simp only[List.length_map,List.length_append,List.length_cons,List.length_nil,maxLen]<;>omega):au dd anns (⟨some d,none,.nj T size bytes x y⟩::l) env c K Rp:=by
  refine au.u rfl (v:= .c6 t (ver+1)) (c1:=c.cj t (.bA T size (ver+1) (rows++new))) ?_ h
  simp only[eU,ms,ab,aV,F1,ht,cb.bA,beq_self_eq_true,y2 hb,y2 hm,Bool.and_self,cond_true]
theorem D.aZ2 (aC:rows.length≠0) (h:au dd anns l ((d,.c6 t (ver+1))::env) (c.cj t (.bA T size (ver+1) rows.tail)) K Rp) (ab:bp env x= .c6 t ver:=by simp (disch:=omega) only[go_sem,simprocAttr]<;>with_reducible rfl) (ht:c.H.tok t=some (.bA T size ver rows):=by simp (disch:=omega) only[go_sem,simprocAttr]<;>with_reducible rfl):au dd anns (⟨some d,none,.oI size x (some (.c (.int .i64 1))) none⟩::l) env c K Rp:=by
  refine au.u rfl (v:= .c6 t (ver+1)) (c1:=c.cj t (.bA T size (ver+1) rows.tail)) ?_ h
  simp only[eU,ms,ab,Gc,ht,cb.bA,show pk env 0 (some (.c (.int .i64 1)))=some 1 from rfl,show pk env rows.length none=some rows.length from rfl,beq_self_eq_true,y2 (Nat.le_refl _),y2 (Nat.one_le_iff_ne_zero.2 aC),Bool.and_self,cond_true,List.take_length,List.drop_one]
end
section
variable {P:Program}{aS:List bc}{c8 t0:Nat}{k:List gm}{Q:Out→aQ→Prop}{env:Env}{c:aQ}
theorem bk.E6 {s:bC}: ∀ {az l:List I}(_:bk s az l) (n:Nat){a v:I},aN s a v→bk s (az.set n a) (l.set n v)
  |[],l,h,n,a,v,_=>by simp only[bk]at h; subst h; simp [bk]
  |a::az,l,h,0,b,v,ae=>by
   simp only[bk]at h
   obtain⟨w,ws,rfl,U,aa⟩:=h
   simp only[List.set_cons_zero,bk]
   exact⟨_,_,rfl,ae,aa⟩
  |a::az,l,h,n+1,b,v,ae=>by
   simp only[bk]at h
   obtain⟨w,ws,rfl,U,aa⟩:=h
   simp only[List.set_cons_succ,bk]
   exact⟨_,_,rfl,U,bk.E6 aa n ae⟩
theorem av.ag9 (p o size nh:Nat){T:TypeId}{cs:List I}(hb:c.H.aZ p=some (T,cs)) (ao:cs[o]? =some .aD) (aU:size≠0) (h:av P aS c8 t0 k Q env ((c.hz (.bA nh size 0 [])).cp p T (cs.set o (.c6 c.bj 0)))):av P aS c8 t0 k Q env c:=fun H0 eP s bd H R aW ht hs he ac ak=>by
  obtain⟨x,cE,b0,cN,du⟩:=ac.aZ p T cs hb
  have mC:cE[o]? =some .aD:=by
    obtain⟨v,ar,ax⟩:=du.get o _ ao
    simp only[aN]at ax
    rw[ar,ax]
  refine cF.ah0 x o nh size aU cN mC fun t U=> ?_
  have bW:=ac.hz (s:=s) (x:=t) (iz.bA (s:=s) (T:=nh) (size:=size) (ver:=0) (rows:=[]) (rows':=[]) rfl) U
  refine h H0 eP ⟨s.b,s.t++[t]⟩ _ _ R aW ht (hs.trans (bC.lF s t)) (he.mono (bC.lF s t)) (bW.cp b0 ?_) ak
  refine bk.E6 (bk.mono (bC.lF s t) _ _ du) o ?_
  simp only[aN]
  exact⟨t,by rw[ac.bj]; exact pf,rfl⟩
theorem av.Kj (p o size t:Nat){T:TypeId}{cs:List I}{rows:List (List I)}(hb:c.H.aZ p=some (T,cs)) (ao:cs[o]? =some (.own t size rows)) (hf:eN rows=true) (h:av P aS c8 t0 k Q env (c.cp p T (cs.set o (.af size rows)))):av P aS c8 t0 k Q env c:=fun H0 eP s bd H R aW ht hs he ac ak=>by
  obtain⟨x,cE,b0,cN,du⟩:=ac.aZ p T cs hb
  obtain⟨dT,mC⟩: ∃dT,cE[o]? =some (.own dT size rows):=by
    obtain⟨v,ar,ax⟩:=du.get o _ ao
    simp only[aN]at ax
    obtain⟨y,l,_,rfl,bU⟩:=ax
    obtain rfl:=(p1 _ hf _).1 bU
    exact⟨y,ar⟩
  refine cF.conv (fun cI aB=>cI=bd∧aB=H.cp x T (cE.set o (.af size rows))) ?_ ?_
  ·intro m eO be
   subst eO
   obtain⟨l,qf,jC,uV⟩:=be.aZ x T cE cN
   obtain⟨v,sw,oX⟩:=jC.get o _ mC
   have v1:aP m (.af size rows) v:=by
     simp only[aP]at oX ⊢
     exact oX.1
   have qg:=jC.set o v1
   rw[zO sw]at qg
   have cL:=b9.ju be (w':=m.w) (b:=x) (T:=T) cN rfl rfl rfl rfl (fun _ _=>rfl) qf qg uV
   have ax:=b8.ju be (w':=m.w) (b:=x) (T:=T) (cs:=cE.set o (.af size rows)) cN rfl rfl rfl rfl (fun _ _=>rfl)
   exact⟨bd,_,_,_,⟨rfl,rfl⟩,cL,ax,fun j v ae=>aP.aI ax _ _ ae⟩
  ·rintro cI aB ⟨rfl,rfl⟩
   refine h H0 eP s _ _ R aW ht hs he (ac.cp b0 ?_) ak
   exact bk.E6 du o ((I.lX _ (by simp only[I.flat,hf]) _).2 rfl)
end
mutual
inductive rW (C:aA):I→I→Prop
  |aM {v r:I}(h:v.aM=r) (hf:r.flat=true):rW C v r
  |nil {n:Nat}:rW C .aD (.af n [])
  |c6 {t ver T size:Nat}{rows:List (List I)}(h:C.tok t=some (.bA T size ver rows)) (hf:eN rows=true):rW C (.c6 t ver) (.af size rows)
  |agg {az bQ:List I}(h:tn C az bQ):rW C (.agg az) (.agg bQ)
  |cT {az bQ:List I}(h:tn C az bQ):rW C (.cT az) (.cT bQ)
inductive tn (C:aA):List I→List I→Prop
  |nil:tn C [] []
  |cons {a b:I}{az bQ:List I}(h:rW C a b) (t:tn C az bQ):tn C (a::az) (b::bQ)
end
section
variable {C H aB:aA}{s:bC}
mutual
theorem rW.bX (ac:HR H s C aB): ∀ {v r:I},rW C v r→∀(bI:I),aN s v bI→oh aB H bI r
  | _,_,.aM h hf,bI,ae=>oh.le ac.base (by subst h; exact fun m y aV=>CV _ bI ae hf y aV)
  | _,_,.nil,bI,ae=>oh.le ac.base (by simp only[aN]at ae; subst ae; exact bh.nil)
  | _,_,.c6 h hf,bI,ae=>by
    simp only[aN]at ae
    obtain⟨x,ar,rfl⟩:=ae
    obtain⟨z,l,f1,f2,f3⟩:=ac.bA h
    rw[ar]at f1
    cases f1
    obtain rfl:=(p1 _ hf _).1 f3
    exact oh.c6 ac.base f2 (ac.lG _ _ ar).1
  | _,_,.agg h,bI,ae=>by simp only[aN]at ae; obtain⟨l,rfl,aC⟩:=ae; exact oh.agg (tn.bX ac h l aC)
  | _,_,.cT h,bI,ae=>by simp only[aN]at ae; obtain⟨l,rfl,aC⟩:=ae; exact oh.cT (tn.bX ac h l aC)
theorem tn.bX (ac:HR H s C aB): ∀ {az bQ:List I},tn C az bQ→∀(l:List I),bk s az l→tc aB H l bQ
  | _,_,.nil,l,h=>by simp only[bk]at h; subst h; exact tc.nil
  | _,_,.cons h t,l,aC=>by simp only[bk]at aC; obtain⟨v,af,rfl,U,aa⟩:=aC; exact tc.cons (rW.bX ac h v U) (tn.bX ac t af aa)
end
end
def Wd (r:I):Out→aQ→Prop:=fun o c=> ∃v,o= .ret v∧rW c.H v r
theorem Sa {P:Program}{f:FuncId}{az:List I}{aS:List bc}{r:I}{fn:Func}{e:bm}(hm:P.follows .mixedOrders=true) (hf:P.funcs[f]? =some fn) (aq:bR P fn az.length e aS=true) (aL:b7 az=true) (h:av P aS 0 0 [.c e] (Wd r) (mQ az) .new):Pure P f az r:=fun H=>
  (aY.intro hm hf aq h H ⟨[],[]⟩ az H ((n2 az aL _).2 rfl) (fi.start H)).bX fun o aB ⟨b5,eF,c1,ec,a2,a3,a4⟩=>by
    obtain⟨v,ar,ax⟩:=a2
    subst ar
    cases o with
    |e5 w=>simp only[oj]at a3
    |ret w=>exact⟨.ret r,H,rW.bX a4.toHR ax w a3,a4.base,rfl,rfl⟩
section
variable {P:Program}{anns:List I}{l:List bY}{env:Env}{c:aQ}{K:Env→aQ→Prop}{Rp:I→aQ→Prop}{f:FuncId}{az:List I}{T size:Nat}{rows:List (List I)}
theorem aY.aE3 (h:C8 P f az T size rows) (hf:b7 az=true) (ac:eN rows=true):aY P f az c (ng (.c6 c.bj 0) (c.hz (.bA T size 0 rows))):=fun H0 s jx H aL a8=>by
  obtain rfl:=(n2 az hf _).1 aL
  refine (h H).mono fun o aB ⟨t,U,aa,ay⟩=> ?_
  subst aa ay
  refine⟨.ret (.c6 t 0),_,bh.refl _,HSub.refl _,⟨s.b,s.t++[t]⟩,.ret (.c6 c.bj 0),_,bC.lF s t,⟨rfl,rfl⟩,?_,a8.hz (iz.bA ((p1 rows ac _).2 rfl)) U⟩
  simp only[oj,aN]
  exact⟨t,by rw[a8.bj]; exact pf,rfl⟩
theorem D.Wb {d:Nat}{args:List aJ}(h:C8 P f az T size rows) (aw:au P anns l ((d,.c6 c.bj 0)::env) (c.hz (.bA T size 0 rows)) K Rp) (aL:args.map (bp env)=az:=by simp (disch:=omega) only[go_sem,simprocAttr]<;>with_reducible rfl) (hf:b7 az=true:=by simp (disch:=omega) only[go_sem,simprocAttr]<;>rfl) (ac:eN rows=true:=by simp (disch:=omega) only[go_sem,simprocAttr]<;>rfl):au P anns (⟨some d,none,.call f args⟩::l) env c K Rp:=au.uB rfl (aY.aE3 h hf ac) aL aw
end
end Go.aO
namespace Go.aO
open Go
section
variable {P:Program}{env:Env}{c c1:aQ}{v bI:I}{anns:List I}{l:List bY}{K:Env→aQ→Prop}{Rp:I→aQ→Prop}{f:FuncId}{args:List aJ}{az eg cap:List I}{others:List Nat}{x:aJ}
theorem H8 {s b5:bC}{H0 H aB:aA}{bd:Env}(he:iA s env bd) (ac:fi H0 s c H) (b0:bC.e8 s b5) (aW:c1.b4=c.b4) (ht:c1.bj=c.bj) (l7:fi H0 b5 c1 aB) (j:Nat) (ao: ∃b1 cO cE,env.get j= .ptr b1 0∧c.H.aZ b1=some (cO,cE)∧c1.H.aZ b1=some (cO,cE)∧pH cE=true) (y:Nat) (aV:bd.get j= .ptr y 0):aB.aZ y=H.aZ y:=by
  have:b5=s:=b0.eq (by rw[←l7.b4,aW,ac.b4]) (by rw[←l7.bj,ht,ac.bj])
  subst this
  obtain⟨b1,cO,cE,ar,ax,bU,dl⟩:=ao
  have jh:=he j
  rw[ar]at jh
  simp only[aN]at jh
  obtain⟨z,g1,g2⟩:=jh
  rw[aV]at g2
  cases g2
  obtain⟨w,aH,cu,cL,dv⟩:=ac.aZ b1 cO cE ax
  obtain⟨lN,fG,hE,mI,sO⟩:=l7.aZ b1 cO cE bU
  rw[g1]at cu hE
  cases cu
  cases hE
  rw[cL,mI,bk.same cE aH fG dl dv sO]
theorem fi.sub {H0 H:aA}{s:bC}(ac:fi H0 s c H) (fa: ∀b y,c1.H.aZ b=some y→c.H.aZ b=some y) (dF: ∀t y,c1.H.tok t=some y→c.H.tok t=some y) (aW:c1.b4=c.b4) (ht:c1.bj=c.bj):fi H0 s c1 H where
  base:=ac.base
  aZ:=fun b T cs h=>ac.aZ b T cs (fa _ _ h)
  tok:=fun t i h=>ac.tok t i (dF _ _ h)
  l4:=ac.l4
  lG:=ac.lG
  mR:=ac.mR
  oa:=ac.oa
  b4:=aW.trans ac.b4
  bj:=ht.trans ac.bj
theorem ik.Dq (h:aY P f (args.map (bp env)) c (ng v c1)) (fa: ∀b y,c1.H.aZ b=some y→c.H.aZ b=some y) (dF: ∀t y,c1.H.tok t=some y→c.H.tok t=some y) (aW:c1.b4=c.b4) (ht:c1.bj=c.bj) (ae:v.flat=true) (ao: ∀s∈others,∃b1 cO cE,env.get s= .ptr b1 0∧c.H.aZ b1=some (cO,cE)∧c1.H.aZ b1=some (cO,cE)∧pH cE=true):ik P (.gN others f args) env c (fun bI cV=>bI=v∧cV=c1) Rp:=fun H0 s bd H K jX he ac dZ jA=>by
  refine .gN (az:=args.map (aJ.aI bd)) _ (fun j bx=> ?_) (fun bH=> ?_) (eo.ua _) (h H0 s _ H (oQ he args) ac) (Cn (fun b5 v1 xd c1 aB b0 cN du gE=>by obtain⟨ar,ax⟩:=cN; cases ar; exact dZ b5 _ xd c1 aB b0 ⟨rfl,ax⟩ du gE) (fun b5 v1 xd c1 aB b0 cN du gE=>by obtain⟨ar,ax⟩:=cN; cases ar))
  ·obtain⟨b1,cO,cE,ar,ax,bU,dl⟩:=ao j bx
   have jh:=he j
   rw[ar]at jh
   simp only[aN]at jh
   obtain⟨y,g1,g2⟩:=jh
   refine⟨y,g2,fun o aB ⟨b5,eF,ci,b0,⟨cN,du⟩,gE,l7⟩=> ?_⟩
   subst du
   exact H8 he ac b0 aW ht l7 j ⟨b1,cO,cE,ar,ax,bU,dl⟩ y g2
  ·exact⟨v,H,⟨s,.ret v,_,bC.e8.refl s,⟨rfl,rfl⟩,(I.lX v ae v).2 rfl,ac.sub fa dF aW ht⟩,bH⟩
theorem ik.Y9 (ab:bp env x= .fn f cap) (aq:di P f=true) (h:aY P f (args.map (bp env)++cap) c (ng v c1)) (fa: ∀b y,c1.H.aZ b=some y→c.H.aZ b=some y) (dF: ∀t y,c1.H.tok t=some y→c.H.tok t=some y) (aW:c1.b4=c.b4) (ht:c1.bj=c.bj) (ae:v.flat=true) (ao: ∀s∈others,∃b1 cO cE,env.get s= .ptr b1 0∧c.H.aZ b1=some (cO,cE)∧c1.H.aZ b1=some (cO,cE)∧pH cE=true):ik P (.mo others x args) env c (fun bI cV=>bI=v∧cV=c1) Rp:=fun H0 s bd H K jX he ac dZ jA=>by
  have lD:=eD he ab
  simp only[aN]at lD
  obtain⟨LG,g1,g2⟩:=lD
  refine .mo _ g1 aq (fun j bx=> ?_) (fun bH=> ?_) (eo.ua _) (h H0 s _ H ((oQ he args).append g2) ac) (Cn (fun b5 v1 xd c1 aB b0 cN du gE=>by obtain⟨ar,ax⟩:=cN; cases ar; exact dZ b5 _ xd c1 aB b0 ⟨rfl,ax⟩ du gE) (fun b5 v1 xd c1 aB b0 cN du gE=>by obtain⟨ar,ax⟩:=cN; cases ar))
  ·obtain⟨b1,cO,cE,ar,ax,bU,dl⟩:=ao j bx
   have jh:=he j
   rw[ar]at jh
   simp only[aN]at jh
   obtain⟨y,g3,g4⟩:=jh
   refine⟨y,g4,fun o aB ⟨b5,eF,ci,b0,⟨cN,du⟩,gE,l7⟩=> ?_⟩
   subst du
   exact H8 he ac b0 aW ht l7 j ⟨b1,cO,cE,ar,ax,bU,dl⟩ y g4
  ·exact⟨v,H,⟨s,.ret v,_,bC.e8.refl s,⟨rfl,rfl⟩,(I.lX v ae v).2 rfl,ac.sub fa dF aW ht⟩,bH⟩
theorem ik.Y8 {b tk:Nat}{T:TypeId}{cs:List I}{o:cb}(h:aY P f (args.map (bp env)) c (ng v ((c.cp b T cs).cj tk o))) (hb:Nat.blt b c.b4=true) (n9:Nat.blt tk c.bj=true) (j3:ed c.b4 c.bj cs=true) (Po:kd o.lU=true) (ae:v.flat=true) (ao: ∀s∈others,∃b1 cO cE,env.get s= .ptr b1 0∧c.H.aZ b1=some (cO,cE)∧((c.cp b T cs).cj tk o).H.aZ b1=some (cO,cE)∧pH cE=true):ik P (.gN others f args) env c (fun bI cV=>bI=v∧cV=(c.cp b T cs).cj tk o) Rp:=fun H0 s bd H K jX he ac dZ jA=>by
  have u7:=kx (l:=s.b) (by rw[←ac.b4]; exact om hb)
  have lC:=kx (l:=s.t) (by rw[←ac.bj]; exact om n9)
  refine .gN (az:=args.map (aJ.aI bd)) _ (fun j bx=> ?_) (fun bH=> ?_) (eo.ua _) (h H0 s _ H (oQ he args) ac) (Cn (fun b5 v1 xd c1 aB b0 cN du gE=>by obtain⟨ar,ax⟩:=cN; cases ar; exact dZ b5 _ xd c1 aB b0 ⟨rfl,ax⟩ du gE) (fun b5 v1 xd c1 aB b0 cN du gE=>by obtain⟨ar,ax⟩:=cN; cases ar))
  ·obtain⟨b1,cO,cE,ar,ax,bU,dl⟩:=ao j bx
   have jh:=he j
   rw[ar]at jh
   simp only[aN]at jh
   obtain⟨y,g1,g2⟩:=jh
   refine⟨y,g2,fun o aB ⟨b5,eF,ci,b0,⟨cN,du⟩,gE,l7⟩=> ?_⟩
   subst du
   exact H8 (c1:=(c.cp b T cs).cj tk _) he ac b0 rfl rfl l7 j ⟨b1,cO,cE,ar,ax,bU,dl⟩ y g2
  ·obtain⟨fG,g1⟩:=bk.ex (s:=s) (Nat.le_of_eq ac.b4) (Nat.le_of_eq ac.bj) cs j3
   obtain⟨eR,g2⟩: ∃eR,iz s o eR:=by
     obtain⟨aE1,aG3,on,aF9,oc⟩:=o
     cases oc with
     |none=>exact⟨_,rfl,rfl,rfl,rfl,rfl⟩
     |some rows=>
      simp only[kd]at Po
      exact⟨⟨aE1,aG3,on,aF9,some rows⟩,rfl,rfl,rfl,rfl,rows,rfl,(p1 rows Po rows).2 rfl⟩
   refine⟨v,(H.cp (s.b.getD b 0) T fG).cj (s.t.getD tk 0) eR,⟨s,.ret v,_,bC.e8.refl s,⟨rfl,rfl⟩,(I.lX v ae v).2 rfl,(ac.cp u7 g1).cj lC g2⟩,?_⟩
   obtain⟨N,cW⟩:=bH
   obtain⟨_,y,aV⟩:=ac.l4 b _ u7
   obtain⟨_,z,aG⟩:=ac.lG tk _ lC
   refine⟨N,fun m hm=>⟨?_,?_⟩⟩
   ·simp only[aA.cp,aA.cj]
    rw[if_neg (fun e=>by subst e; rw[(cW _ hm).1]at aV; cases aV)]
    exact (cW m hm).1
   ·simp only[aA.cp,aA.cj]
    rw[if_neg (fun e=>by subst e; rw[(cW _ hm).2]at aG; cases aG)]
    exact (cW m hm).2
def nQ (H:Nat→Option (TypeId×List I)) (env:Env) (cK:fl):List Nat→Prop
  |[]=>True
  |s::l=>(∃b1 cO cE,env.get s= .ptr b1 0∧H b1=some (cO,cE)∧hU cK b1=some (cO,cE)∧pH cE=true)∧nQ H env cK l
theorem nQ.get {H:Nat→Option (TypeId×List I)}{env:Env}{cK:fl}: ∀ {l:List Nat},nQ H env cK l→∀s∈l,∃b1 cO cE,env.get s= .ptr b1 0∧H b1=some (cO,cE)∧hU cK b1=some (cO,cE)∧pH cE=true
  |x::l,h,s,hs=>by
   rcases List.mem_cons.1 hs with rfl|hs
   ·exact h.1
   ·exact nQ.get h.2 s hs
theorem av.gi {aS:List bc}{c8 t0:Nat}{k:List gm}{Q:Out→aQ→Prop}{X:Type}{E:X→Env}{b4 bj:Nat}{B:X→fl}{T:X→fm}{fK:X→Prop}{bA:X→Nat}{m0:Nat}(x:X) (aU:fK x) (he:rT env (E x)) (hb:ll c.H (B x)) (ht:lm c.H (T x)) (U:bA x<m0) (aW:(Nat.ble c8 b4&&(Nat.ble b4 c.b4&&(Nat.ble t0 bj&&Nat.ble bj c.bj)))=true:=by rfl) (br:(lq b4 bj (E x)&&(fA b4 bj (B x)&&fB b4 bj (T x)))=true:=by simp (disch:=omega) only[go_sem,simprocAttr,lq,cb.bX,cb.bb,cb.bA]<;>rfl):av P aS c8 t0 (.oF (AA E (fun x=>aQ.of b4 bj (B x) (T x)) fK bA) m0::k) Q env c:=av.oG x aU he hb ht aW br U
theorem D.C5 {d b4 bj:Nat}(s:bC){fX jZ:fl}{fZ lL:fm}{n q:Nat}(h:aY P f eg (aQ.of n q fX fZ) (dR v fX fZ)) (aw:au P anns l ((d,v)::env) (aQ.of b4 bj jZ lL) K Rp)
    (hu:c.li s fX fZ=aQ.of b4 bj jZ lL:=by simp (disch:=omega) only[go_sem,simprocAttr]<;>with_reducible rfl)
    (aq:(s.b.length==n&&(s.t.length==q&&(nodupB s.b&&(nodupB s.t&&(s.b.all (fun x=>Nat.blt x c.b4)&&(s.t.all (fun x=>Nat.blt x c.bj)&&(ed n q eg&&(fA n q fX&&(fB n q fZ&&v.flat)))))))))=true:=by simp (disch:=omega) only[go_sem,simprocAttr]<;>rfl) (fa:ox c.H.aZ s fX:=by repeat first|exact trivial|refine⟨rfl,?_⟩) (dF:oy c.H.tok s fZ:=by repeat first|exact trivial|refine⟨rfl,?_⟩) (aL:args.map (bp env)=fw s eg:=by simp (disch:=omega) only[go_sem,simprocAttr]<;>rfl)
    (wC:ll c.H jZ:=by repeat first|exact trivial|refine⟨rfl,?_⟩) (Hj:lm c.H lL:=by repeat first|exact trivial|refine⟨rfl,?_⟩) (aW:c.b4=b4:=by rfl) (ht:c.bj=bj:=by rfl)
    (ao:nQ c.H.aZ env jZ others:=by repeat first|exact trivial|refine⟨⟨_,_,_,by simp (disch:=omega) only[go_sem,simprocAttr]<;>with_reducible rfl,rfl,rfl,by simp (disch:=omega) only[go_sem,simprocAttr]<;>rfl⟩,?_⟩):au P anns (⟨some d,none,.gN others f args⟩::l) env c K Rp:=by
  simp only[Bool.and_eq_true,beq_iff_eq]at aq
  obtain⟨c1,ci,fc,ha,k6,ls,oo,ph,nl,nk⟩:=aq
  have bH:aY P f (args.map (bp env)) c (ng v (aQ.of b4 bj jZ lL)):=by
    rw[aL,←hu]
    have:=aY.p2 (c:=c) s h c1 ci (by rw[fc,ha,k6,ls]; rfl) fa dF (by rw[oo,ph,nl]; rfl) (by rw[ph,nl,tJ _ nk]; rfl) rfl
    rwa [tK _ nk]at this
  exact au.qR rfl rfl (ik.Dq (others:=others) bH (fun b y h=>ll.get wC b y h) (fun t y h=>lm.get Hj t y h) aW.symm ht.symm nk (nQ.get ao)) fun bI cV ⟨ar,ax⟩=>by rw[ar,ax]; exact aw
theorem D.td {d b4 bj:Nat}(s:bC){fX jZ:fl}{fZ lL:fm}{n q:Nat}(hf:di P f=true) (h:aY P f eg (aQ.of n q fX fZ) (dR v fX fZ)) (aw:au P anns l ((d,v)::env) (aQ.of b4 bj jZ lL) K Rp)
    (hu:c.li s fX fZ=aQ.of b4 bj jZ lL:=by simp (disch:=omega) only[go_sem,simprocAttr]<;>with_reducible rfl)
    (ab:bp env x= .fn f cap:=by simp (disch:=omega) only[go_sem,simprocAttr]<;>with_reducible rfl)
    (aq:(s.b.length==n&&(s.t.length==q&&(nodupB s.b&&(nodupB s.t&&(s.b.all (fun x=>Nat.blt x c.b4)&&(s.t.all (fun x=>Nat.blt x c.bj)&&(ed n q eg&&(fA n q fX&&(fB n q fZ&&v.flat)))))))))=true:=by simp (disch:=omega) only[go_sem,simprocAttr]<;>rfl) (fa:ox c.H.aZ s fX:=by repeat first|exact trivial|refine⟨rfl,?_⟩) (dF:oy c.H.tok s fZ:=by repeat first|exact trivial|refine⟨rfl,?_⟩) (aL:args.map (bp env)++cap=fw s eg:=by simp (disch:=omega) only[go_sem,simprocAttr]<;>rfl)
    (wC:ll c.H jZ:=by repeat first|exact trivial|refine⟨rfl,?_⟩) (Hj:lm c.H lL:=by repeat first|exact trivial|refine⟨rfl,?_⟩) (aW:c.b4=b4:=by rfl) (ht:c.bj=bj:=by rfl)
    (ao:nQ c.H.aZ env jZ others:=by repeat first|exact trivial|refine⟨⟨_,_,_,by simp (disch:=omega) only[go_sem,simprocAttr]<;>with_reducible rfl,rfl,rfl,by simp (disch:=omega) only[go_sem,simprocAttr]<;>rfl⟩,?_⟩):au P anns (⟨some d,none,.mo others x args⟩::l) env c K Rp:=by
  simp only[Bool.and_eq_true,beq_iff_eq]at aq
  obtain⟨c1,ci,fc,ha,k6,ls,oo,ph,nl,nk⟩:=aq
  have bH:aY P f (args.map (bp env)++cap) c (ng v (aQ.of b4 bj jZ lL)):=by
    rw[aL,←hu]
    have:=aY.p2 (c:=c) s h c1 ci (by rw[fc,ha,k6,ls]; rfl) fa dF (by rw[oo,ph,nl]; rfl) (by rw[ph,nl,tJ _ nk]; rfl) rfl
    rwa [tK _ nk]at this
  exact au.qR rfl rfl (ik.Y9 (others:=others) ab hf bH (fun b y h=>ll.get wC b y h) (fun t y h=>lm.get Hj t y h) aW.symm ht.symm nk (nQ.get ao)) fun bI cV ⟨ar,ax⟩=>by rw[ar,ax]; exact aw
theorem aY.dead {Q:Out→aQ→Prop}(j T:Nat) (bx:c.H.tok j=some (.bX T 0 0)):aY P f az c Q:=fun H0 s jx H aL ac=>by
  intro m af eO be
  obtain⟨x,dB,U,aa,_,bl,_⟩:=ac.tok j _ bx
  subst eO
  exact absurd bl (be.tok x dB aa).2.1
theorem D.Fw {d b4 bj:Nat}{cK:fl}{cX:fm}(iH:I) (j T:Nat) (aw:au P anns l ((d,iH)::env) (aQ.of b4 bj cK cX) K Rp) (bx:(aQ.of b4 bj cK cX).H.tok j=some (.bX T 0 0):=by rfl) (HQ:iH.flat=true:=by rfl)
    (ao:nQ (hU cK) env cK others:=by repeat first|exact trivial|refine⟨⟨_,_,_,by simp (disch:=omega) only[go_sem,simprocAttr]<;>with_reducible rfl,rfl,rfl,by simp (disch:=omega) only[go_sem,simprocAttr]<;>rfl⟩,?_⟩):au P anns (⟨some d,none,.gN others f args⟩::l) env (aQ.of b4 bj cK cX) K Rp:=
  au.qR rfl rfl (ik.Dq (others:=others) (c:=aQ.of b4 bj cK cX) (c1:=aQ.of b4 bj cK cX) (v:=iH) (aY.dead j T bx) (fun _ _ h=>h) (fun _ _ h=>h) rfl rfl HQ (nQ.get ao)) fun bI cV ⟨ar,ax⟩=>by rw[ar,ax]; exact aw
end
end Go.aO
namespace Go.aO.T.N
open Go Go.aO Go.Proofs
set_option maxRecDepth 1000000
abbrev ap (d:Nat) (o:bg):bY:=⟨some d,none,o⟩
abbrev bS (d j:Nat) (b:Bool) (o:bg):bY:=⟨some d,some (j,b),o⟩
abbrev sz (o:bg):bY:=⟨none,none,o⟩
abbrev cP:aJ:= .c (.bool false)
abbrev dA:aJ:= .c (.bool true)
abbrev an (n:Int):aJ:= .c (.int .i64 n)
abbrev bZ (s:List UInt8):aJ:= .c (.str s)
abbrev J (d s:Nat):bY:=⟨some d,none,.hO (.t s)⟩
abbrev bO (d:Nat):bY:=⟨some d,none,.hO (.c (.bool false))⟩
abbrev ir (d:Nat):bY:=⟨some d,none,.hO (.c (.bool true))⟩
abbrev bq (d:Nat) (x:aJ):bY:=⟨some d,none,.hO x⟩
abbrev aH (d a:Nat):bY:=⟨some d,none,.load false 1 (.t a)⟩
abbrev bD (d n a:Nat):bY:=⟨some d,none,.load true n (.t a)⟩
abbrev aE (d k a:Nat):bY:=⟨some d,none,.pq k (.t a)⟩
abbrev aF (d:Nat) (o:BinOp) (x y:aJ):bY:=⟨some d,none,.bin o x y⟩
abbrev bn (d f:Nat) (l:List aJ):bY:=⟨some d,none,.call f l⟩
abbrev gD (d f:Nat) (l:List aJ):bY:=⟨some d,none,.jF f l⟩
abbrev bN (d:Nat) (x y z:aJ):bY:=⟨some d,none,.pick x y z⟩
abbrev gV (d s:Nat):bY:=⟨some d,none,.not (.t s)⟩
abbrev cm (d s:Nat):bY:=⟨some d,none,.len (.t s)⟩
abbrev ct (d n:Nat) (x y:aJ):bY:=⟨some d,none,.gy n x y⟩
abbrev dh (d j:Nat) (b:Bool) (s:Nat):bY:=⟨some d,some (j,b),.hO (.t s)⟩
abbrev bP (d j:Nat) (b:Bool) (a:Nat):bY:=⟨some d,some (j,b),.load false 1 (.t a)⟩
abbrev bG (d j:Nat) (b:Bool) (k a:Nat):bY:=⟨some d,some (j,b),.pq k (.t a)⟩
abbrev cv (d j:Nat) (b:Bool) (o:BinOp) (x y:aJ):bY:=⟨some d,some (j,b),.bin o x y⟩
abbrev fe (d j:Nat) (b:Bool) (f:Nat) (l:List aJ):bY:=⟨some d,some (j,b),.call f l⟩
abbrev cn (n a:Nat) (x:aJ):bY:=⟨none,none,.store n (.t a) x⟩
abbrev bl4 (x:aJ):bY:=⟨none,none,.eB x⟩
abbrev ag (l:List bY) (k:bm):bm:= .seq (.region l false) k
abbrev a6 (l:List bY):bm:= .seq (.region l false) .ret
abbrev aK (a b:bm):bm:= .seq a b
abbrev bV (l:List bY):bm:= .region l false
abbrev a1 (t:Nat) (a b:bm):bm:= .cond (.t t) a b
abbrev eQ:aJ:= .t 0
abbrev gR:aJ:= .t 1
abbrev VC:aJ:= .t 2
abbrev e7:aJ:= .t 3
abbrev iv:aJ:= .t 4
abbrev dU:aJ:= .t 5
abbrev ey:aJ:= .t 6
abbrev dx:aJ:= .t 7
abbrev dG:aJ:= .t 8
abbrev eC:aJ:= .t 9
abbrev fU:aJ:= .t 10
abbrev dY:aJ:= .t 11
abbrev dP:aJ:= .t 12
abbrev ek:aJ:= .t 13
abbrev fx:aJ:= .t 14
abbrev en:aJ:= .t 15
abbrev fV:aJ:= .t 16
abbrev fy:aJ:= .t 17
abbrev fD:aJ:= .t 18
abbrev eW:aJ:= .t 19
abbrev ga:aJ:= .t 20
abbrev fW:aJ:= .t 21
abbrev gl:aJ:= .t 22
abbrev fI:aJ:= .t 23
abbrev fu:aJ:= .t 24
abbrev gb:aJ:= .t 25
abbrev gX:aJ:= .t 26
abbrev e6:aJ:= .t 27
abbrev gY:aJ:= .t 28
abbrev hW:aJ:= .t 29
abbrev jO:aJ:= .t 30
abbrev hX:aJ:= .t 31
abbrev jc:aJ:= .t 32
abbrev gK:aJ:= .t 33
abbrev iJ:aJ:= .t 34
abbrev jj:aJ:= .t 35
abbrev gZ:aJ:= .t 36
abbrev iW:aJ:= .t 37
abbrev j9:aJ:= .t 38
abbrev jk:aJ:= .t 39
abbrev jP:aJ:= .t 40
abbrev iw:aJ:= .t 41
abbrev lf:aJ:= .t 42
abbrev jG:aJ:= .t 43
abbrev jl:aJ:= .t 44
abbrev ka:aJ:= .t 45
abbrev kF:aJ:= .t 46
abbrev ma:aJ:= .t 47
abbrev nH:aJ:= .t 48
abbrev mJ:aJ:= .t 49
abbrev jH:aJ:= .t 50
abbrev kG:aJ:= .t 51
abbrev kX:aJ:= .t 52
abbrev na:aJ:= .t 53
abbrev mb:aJ:= .t 54
abbrev lg:aJ:= .t 55
abbrev mc:aJ:= .t 56
abbrev lM:aJ:= .t 57
abbrev kH:aJ:= .t 58
abbrev mK:aJ:= .t 59
abbrev nI:aJ:= .t 60
abbrev lh:aJ:= .t 61
abbrev pI:aJ:= .t 62
abbrev od:aJ:= .t 63
abbrev nJ:aJ:= .t 64
abbrev pJ:aJ:= .t 65
abbrev oe:aJ:= .t 66
abbrev nK:aJ:= .t 67
abbrev ud:aJ:= .t 68
abbrev pK:aJ:= .t 69
abbrev nL:aJ:= .t 70
abbrev nM:aJ:= .t 71
abbrev s4:aJ:= .t 72
abbrev pL:aJ:= .t 73
abbrev pM:aJ:= .t 74
abbrev qo:aJ:= .t 75
abbrev ue:aJ:= .t 76
abbrev pN:aJ:= .t 77
abbrev yD:aJ:= .t 78
abbrev xa:aJ:= .t 79
abbrev xb:aJ:= .t 80
abbrev s5:aJ:= .t 81
abbrev Fg:aJ:= .t 82
abbrev vF:aJ:= .t 83
abbrev vG:aJ:= .t 84
abbrev Al:aJ:= .t 85
abbrev vH:aJ:= .t 86
abbrev CK:aJ:= .t 87
abbrev Am:aJ:= .t 88
abbrev yE:aJ:= .t 89
abbrev An:aJ:= .t 90
abbrev Ao:aJ:= .t 91
abbrev xc:aJ:= .t 92
abbrev CL:aJ:= .t 93
abbrev CM:aJ:= .t 94
abbrev Fh:aJ:= .t 95
abbrev Fi:aJ:= .t 96
abbrev CN:aJ:= .t 97
abbrev Fj:aJ:= .t 98
abbrev JX:aJ:= .t 99
abbrev JK:aJ:= .t 100
abbrev JL:aJ:= .t 101
abbrev JM:aJ:= .t 102
abbrev JN:aJ:= .t 103
abbrev Vh:aJ:= .t 104
abbrev Fe:aJ:= .t 105
abbrev JO:aJ:= .t 106
abbrev Vi:aJ:= .t 107
abbrev JP:aJ:= .t 108
abbrev Vj:aJ:= .t 109
abbrev JQ:aJ:= .t 110
abbrev Vk:aJ:= .t 111
abbrev Vl:aJ:= .t 112
abbrev Vm:aJ:= .t 113
abbrev Vn:aJ:= .t 114
abbrev Ff:aJ:= .t 115
abbrev Vo:aJ:= .t 116
abbrev Vp:aJ:= .t 117
abbrev aZ9:aJ:= .t 118
abbrev Vq:aJ:= .t 119
abbrev a00:aJ:= .t 120
abbrev Vr:aJ:= .t 121
abbrev a01:aJ:= .t 122
abbrev Vs:aJ:= .t 123
abbrev a02:aJ:= .t 124
abbrev Vt:aJ:= .t 125
abbrev a03:aJ:= .t 126
abbrev JR:aJ:= .t 127
abbrev a04:aJ:= .t 128
abbrev Vu:aJ:= .t 129
abbrev Vv:aJ:= .t 130
abbrev JS:aJ:= .t 131
abbrev Vw:aJ:= .t 132
abbrev JT:aJ:= .t 133
abbrev a05:aJ:= .t 134
abbrev Vx:aJ:= .t 135
abbrev bm3:aJ:= .t 136
abbrev JU:aJ:= .t 137
abbrev Vy:aJ:= .t 138
abbrev a06:aJ:= .t 139
abbrev Vz:aJ:= .t 140
abbrev VA:aJ:= .t 141
abbrev VB:aJ:= .t 142
abbrev JV:aJ:= .t 143
abbrev a07:aJ:= .t 144
abbrev JW:aJ:= .t 145
abbrev bm4:aJ:= .t 146
abbrev a08:aJ:= .t 147
abbrev bm5:aJ:= .t 148
abbrev a09:aJ:= .t 149
abbrev a10:aJ:= .t 150
abbrev bm6:aJ:= .t 151
abbrev bm7:aJ:= .t 152
abbrev a11:aJ:= .t 153
abbrev a13:aJ:= .t 154
abbrev a14:aJ:= .t 155
abbrev a15:aJ:= .t 156
abbrev bm8:aJ:= .t 157
abbrev a16:aJ:= .t 158
abbrev bm9:aJ:= .t 159
abbrev a17:aJ:= .t 160
abbrev bn0:aJ:= .t 161
abbrev bn1:aJ:= .t 162
abbrev a18:aJ:= .t 163
abbrev bn2:aJ:= .t 164
abbrev a19:aJ:= .t 165
abbrev a23:aJ:= .t 166
abbrev a25:aJ:= .t 167
abbrev bn3:aJ:= .t 168
abbrev a26:aJ:= .t 169
abbrev bn4:aJ:= .t 170
abbrev a27:aJ:= .t 171
abbrev a29:aJ:= .t 172
abbrev a30:aJ:= .t 173
abbrev a32:aJ:= .t 174
def mu:bm:=
 ag [ap 1 (.box 26 eQ),ap 2 (.alloc 48 [.str [],.str [],.str [],.aD,.aD,.aD])] (ag [aE 9 0 1,aH 10 9,aE 11 1 1,aH 12 11,aE 13 2 1,aH 14 13,ap 15 (.build [.str [],.str [],.str [],.aD,.aD,.aD] [(0,1,fU),(1,1,dP),(2,1,fx)]),ap 3 (.alloc 48 [.str [],.str [],.str [],.aD,.aD,.aD]),cn 6 3 en] (aK (ag [bq 4 (an 0)] (.block 0 (.loop (aK (ag [J 16 4,aE 17 3 1,aH 18 17,cm 19 18,aF 20 .lss fV eW] (a1 20 .skip (.exit 0))) (aK (.block 1 (.region [aE 23 3 3,aH 24 23,aE 25 3 1,aH 26 25,J 27 4,ct 28 7 gX e6,bD 29 7 28,ap 30 (.da 146 7 1 [.str [],.int .i64 0,.int .i64 0,.int .i64 0,.int .i64 0,.int .i64 0,.str []] [(0,hW)]),ap 31 (.append 146 7 72 fu jO),aE 32 3 3,cn 1 32 hX] true)) (bV [J 21 4,aF 22 .add fW (an 1),J 4 22])))))) (aK (ag [bq 5 (an 0)] (.block 2 (.loop (aK (ag [J 33 5,aE 34 4 1,aH 35 34,cm 36 35,aF 37 .lss gK gZ] (a1 37 .skip (.exit 2))) (aK (.block 3 (ag [aE 40 4 1,aH 41 40,J 42 5,ct 43 4 iw lf,bD 44 4 43,ap 6 (.alloc 113 [.str [],.str [],.aD,.aD]),cn 4 6 jl] (.region [aE 45 4 3,aH 46 45,aE 47 0 6,aH 48 47,aE 49 1 6,aH 50 49,aE 51 2 6,aH 52 51,aE 53 3 6,aH 54 53,gD 55 64 [mb],ap 56 (.build [.str [],.str [],.aD,.aD] [(0,1,nH),(1,1,jH),(2,1,kX),(3,1,lg)]),ap 57 (.da 84 4 1 [.str [],.str [],.aD,.aD] [(0,mc)]),ap 58 (.append 84 4 80 kF lM),aE 59 4 3,cn 1 59 kH] true))) (bV [J 38 5,aF 39 .add j9 (an 1),J 5 39])))))) (aK (ag [bq 7 (an 0)] (.block 4 (.loop (aK (ag [J 60 7,aE 61 5 1,aH 62 61,cm 63 62,aF 64 .lss nI od] (a1 64 .skip (.exit 4))) (aK (.block 5 (ag [aE 67 5 1,aH 68 67,J 69 7,ct 70 4 ud pK,bD 71 4 70,ap 8 (.alloc 116 [.str [],.str [],.aD,.aD]),cn 4 8 nM] (.region [aE 72 5 3,aH 73 72,aE 74 0 8,aH 75 74,aE 76 1 8,aH 77 76,aE 78 2 8,aH 79 78,gD 80 65 [xa],aE 81 3 8,aH 82 81,gD 83 65 [Fg],ap 84 (.build [.str [],.str [],.aD,.aD] [(0,1,qo),(1,1,pN),(2,1,xb),(3,1,vF)]),ap 85 (.da 148 4 1 [.str [],.str [],.aD,.aD] [(0,vG)]),ap 86 (.append 148 4 80 pL Al),aE 87 5 3,cn 1 87 vH] true))) (bV [J 65 7,aF 66 .add pJ (an 1),J 7 66])))))) (a6 [bD 88 6 3,cn 6 2 Am])))))
def S9:List bc:=[.cell true 6 2]
theorem XH:bR Tryz.prog Tryz.f21 1 mu S9=true:=by kernel_rfl
def N9:bm:=
 ag [ap 1 (.box 48 eQ),bO 2] (aK (ag [aE 3 0 1,aH 4 3,bn 5 109 [iv],gV 6 5,J 7 6,bG 8 7 false 1 1,bP 9 7 false 8,fe 10 7 false 109 [eC],bS 11 7 false (.not fU),bN 12 dx dA dY,J 13 12,bG 14 13 false 2 1,bP 15 13 false 14,fe 16 13 false 109 [en],bS 17 13 false (.not fV),bN 18 ek dA fy,J 19 18,bG 20 19 false 3 1,bP 21 19 false 20,bS 22 19 false (.len fW),cv 23 19 false .gtr gl (an 12),bN 24 eW dA fI,J 25 24,bG 26 25 false 4 1,bP 27 25 false 26,bS 28 25 false (.len e6),cv 29 25 false .gtr gY (an 40),bN 30 gb dA hW,J 31 30,bG 32 31 false 5 1,bP 33 31 false 32,bS 34 31 false (.len gK),cv 35 31 false .gtr iJ (an 40),bN 36 hX dA jj] (a1 36 (a6 [bO 2]) .skip)) (a6 [aE 37 3 1,aH 38 37,bn 39 110 [j9,.c (.fn 111 [])],J 40 39,bG 41 40 true 4 1,bP 42 40 true 41,fe 43 40 true 112 [lf,.c (.fn 113 [])],bN 44 jP jG cP,J 45 44,bG 46 45 true 5 1,bP 47 45 true 46,fe 48 45 true 114 [ma,.c (.fn 115 [])],bN 49 ka nH cP,J 50 49,bS 51 50 true (.load true 6 gR),fe 52 50 true 116 [kG],bS 53 50 true (.mT kX),cv 54 50 true .leq na (an 8000),bN 55 jH mb cP,J 2 55]))
def Ui:List bc:=[.t 2]
theorem YO:bR Tryz.prog Tryz.f40 1 N9 Ui=true:=by kernel_rfl
def Ob:bm:=
 ag [ap 1 (.box 26 eQ),bO 2] (ag [bq 3 (an 0)] (aK (ag [bq 4 (an 0)] (.block 0 (.loop (aK (ag [J 6 4,aE 7 4 1,aH 8 7,cm 9 8,aF 10 .lss ey eC] (a1 10 .skip (.exit 0))) (aK (.block 1 (aK (ag [aE 13 4 1,aH 14 13,J 15 4,ct 16 4 fx en,aE 17 2 16,aH 18 17,cm 19 18,aF 20 .gtr eW (an 60)] (a1 20 (a6 [bO 2]) .skip)) (bV [J 21 3,aE 22 4 1,aH 23 22,J 24 4,ct 25 4 fI fu,aE 26 3 25,aH 27 26,bn 28 118 [e6],aF 29 .add fW gY,J 3 29]))) (bV [J 11 4,aF 12 .add dY (an 1),J 4 12])))))) (aK (ag [bq 5 (an 0)] (.block 2 (.loop (aK (ag [J 30 5,aE 31 5 1,aH 32 31,cm 33 32,aF 34 .lss jO gK] (a1 34 .skip (.exit 2))) (aK (.block 3 (.region [J 37 3,aE 38 5 1,aH 39 38,J 40 5,ct 41 4 jk jP,aE 42 2 41,aH 43 42,gD 44 119 [jG],aE 45 5 1,aH 46 45,J 47 5,ct 48 4 kF ma,aE 49 3 48,aH 50 49,gD 51 119 [jH],aF 52 .add jl kG,aF 53 .add iW kX,J 3 53] true)) (bV [J 35 5,aF 36 .add jj (an 1),J 5 36])))))) (a6 [J 54 3,aF 55 .leq mb (an 500),J 56 55,bG 57 56 true 3 1,bP 58 56 true 57,bS 59 56 true (.len kH),cv 60 56 true .leq mK (an 60),bN 61 mc nI cP,J 62 61,bG 63 62 true 4 1,bP 64 62 true 63,bS 65 62 true (.len nJ),cv 66 62 true .leq pJ (an 60),bN 67 pI oe cP,J 68 67,bG 69 68 true 5 1,bP 70 68 true 69,bS 71 68 true (.len nL),cv 72 68 true .leq nM (an 60),bN 73 ud s4 cP,J 2 73]))))
def Uj:List bc:=[.t 2]
theorem YQ:bR Tryz.prog Tryz.f44 1 Ob Uj=true:=by kernel_rfl
def Od:bm:=
 ag [bq 2 (.c .aD)] (ag [bq 3 (.c .aD)] (aK (ag [bq 4 (an 0)] (.block 0 (.loop (aK (ag [J 6 4,J 7 0,cm 8 7,aF 9 .lss ey dG] (a1 9 .skip (.exit 0))) (aK (.block 1 (ag [J 12 0,J 13 4,ct 14 11 dP ek,bD 15 11 14,ap 5 (.alloc 178 [.int .i64 0,.str [],.int .i64 0,.str [],.str [],.str [],.int .i64 0,.aD,.int .i64 0,.aD,.aD]),cn 11 5 en] (.region [J 16 3,aE 17 0 5,aH 18 17,aE 19 1 5,aH 20 19,aE 21 2 5,bD 22 6 21,ap 23 (.da 120 6 1 [.int .i64 0,.str [],.str [],.str [],.int .i64 0,.aD] [(0,gl)]),gD 24 65 [fI],ct 25 6 fu (an 0),bD 26 6 25,aE 27 8 5,aH 28 27,aE 29 9 5,aH 30 29,gD 31 64 [jO],aE 32 10 5,aH 33 32,gD 34 64 [gK],ap 35 (.build [.int .i64 0,.str [],.int .i64 0,.str [],.str [],.str [],.int .i64 0,.aD,.int .i64 0,.aD,.aD] [(0,1,fD),(1,1,ga),(2,6,gX),(8,1,gY),(9,1,hX),(10,1,iJ)]),ap 36 (.da 82 11 1 [.int .i64 0,.str [],.int .i64 0,.str [],.str [],.str [],.int .i64 0,.aD,.int .i64 0,.aD,.aD] [(0,jj)]),ap 37 (.append 82 11 168 fV gZ),J 3 37] true))) (bV [J 10 4,aF 11 .add fU (an 1),J 4 11])))))) (a6 [J 38 3,J 2 38])))
def Uo:List bc:=[.t 2]
theorem YU:bR Tryz.prog Tryz.f64 1 Od Uo=true:=by kernel_rfl
def Oe:bm:=
 ag [bq 2 (.c .aD)] (ag [bq 3 (.c .aD)] (aK (ag [bq 4 (an 0)] (.block 0 (.loop (aK (ag [J 6 4,J 7 0,cm 8 7,aF 9 .lss ey dG] (a1 9 .skip (.exit 0))) (aK (.block 1 (ag [J 12 0,J 13 4,ct 14 6 dP ek,bD 15 6 14,ap 5 (.alloc 120 [.int .i64 0,.str [],.str [],.str [],.int .i64 0,.aD]),cn 6 5 en] (.region [J 16 3,aE 17 0 5,aH 18 17,aE 19 1 5,aH 20 19,aE 21 2 5,aH 22 21,aE 23 3 5,aH 24 23,aE 25 4 5,aH 26 25,aE 27 5 5,aH 28 27,gD 29 65 [gY],ap 30 (.build [.int .i64 0,.str [],.str [],.str [],.int .i64 0,.aD] [(0,1,fD),(1,1,ga),(2,1,gl),(3,1,fu),(4,1,gX),(5,1,hW)]),ap 31 (.da 80 6 1 [.int .i64 0,.str [],.str [],.str [],.int .i64 0,.aD] [(0,jO)]),ap 32 (.append 80 6 88 fV hX),J 3 32] true))) (bV [J 10 4,aF 11 .add fU (an 1),J 4 11])))))) (a6 [J 33 3,J 2 33])))
def Up:List bc:=[.t 2]
theorem YV:bR Tryz.prog Tryz.f65 1 Oe Up=true:=by kernel_rfl
def GO:bm:=
 ag [bO 2] (aK (ag [J 4 0,aF 5 .eql iv (bZ []),J 6 5,dh 7 6 false 0,bS 8 6 false (.mT dx),cv 9 6 false .gtr dG (an 16),bN 10 ey dA eC,J 11 10,dh 12 11 false 0,bS 13 11 false (.ic dP (an 0)),fe 14 11 false 145 [ek],bS 15 11 false (.not fx),bN 16 dY dA en] (a1 16 (a6 [bO 2]) .skip)) (aK (ag [J 17 0,ap 18 (.mT fy),bq 19 (an 0)] (.block 0 (.loop (ag [aF 20 .lss eW fD] (aK (a1 20 .skip (.exit 0)) (aK (.block 1 (ag [J 21 19,J 3 21] (ag [J 22 0,J 23 3,ap 24 (.ic gl fI),bn 25 146 [fu],gV 26 25] (a1 26 (a6 [bO 2]) .skip)))) (bV [aF 27 .add eW (an 1),J 19 27]))))))) (a6 [ir 2])))
def Jc:List bc:=[.t 2]
theorem LA:bR Tryz.prog Tryz.f76 1 GO Jc=true:=by kernel_rfl
def uI:bm:=
 ag [bq 4 (an 0)] (aK (ag [J 6 0,cm 7 6,bq 8 (an 0)] (.block 0 (.loop (ag [aF 9 .lss dG dx] (aK (a1 9 .skip (.exit 0)) (aK (.block 1 (ag [J 10 8,J 5 10] (ag [J 11 1,J 12 0,J 13 5,ct 14 1 dP ek,aH 15 14,aF 16 .eql dY en] (a1 16 (a6 [J 17 5,J 4 17]) .skip)))) (bV [aF 18 .add dG (an 1),J 8 18]))))))) (a6 [bq 4 (an (-1))]))
def Uz:List bc:=[.t 4]
theorem Y5:bR Tryz.prog Tryz.f93 2 uI Uz=true:=by kernel_rfl
def zq:bm:=
 ag [bO 4] (a6 [J 5 0,J 6 1,bn 7 183 [dU,ey],aF 8 .geq dx (an 0),J 4 8])
def E1:List bc:=[.t 4]
theorem FW:bR Tryz.prog Tryz.f96 2 zq E1=true:=by kernel_rfl
def Mv:bm:=
 (.seq
 (.region [ap 2 (.hO (.c (.bool false)))] false)
 (.seq
 (.region [ap 4 (.build [.str [],.str [],.str [],.str [],.str [],.str [],.str [],.str [],.str [],.str [],.str [],.str [],.str [],.str [],.str [],.str [],.str [],.str [],.str [],.str [],.str [],.str [],.str [],.str [],.str [],.str [],.str [],.str []] [(0,1,(.c (.str [97,103,97,105,110]))),(1,1,(.c (.str [97,110,100]))),(2,1,(.c (.str [97,115]))),(3,1,(.c (.str [97,116]))),(4,1,(.c (.str [99,97,108,108]))),(5,1,(.c (.str [99,104,111,105,99,101]))),(6,1,(.c (.str [101,108,115,101]))),(7,1,(.c (.str [102,114,111,109]))),(8,1,(.c (.str [105,102]))),(9,1,(.c (.str [105,110,116]))),(10,1,(.c (.str [108,101,110]))),(11,1,(.c (.str [108,111,111,112]))),(12,1,(.c (.str [109,101,115,115,97,103,101]))),(13,1,(.c (.str [111,102]))),(14,1,(.c (.str [111,102,102,101,114]))),(15,1,(.c (.str [111,110]))),(16,1,(.c (.str [111,114]))),(17,1,(.c (.str [112,97,114]))),(18,1,(.c (.str [112,108,97,121,115]))),(19,1,(.c (.str [112,114,111,116,111,99,111,108]))),(20,1,(.c (.str [115,101,114,118,105,99,101]))),(21,1,(.c (.str [116,101,120,116]))),(22,1,(.c (.str [116,105,109,101,115]))),(23,1,(.c (.str [116,111]))),(24,1,(.c (.str [118,97,114]))),(25,1,(.c (.str [119,104,101,114,101]))),(26,1,(.c (.str [119,104,105,108,101]))),(27,1,(.c (.str [119,105,116,104,105,110])))]),ap 3 (.alloc 291 [.str [],.str [],.str [],.str [],.str [],.str [],.str [],.str [],.str [],.str [],.str [],.str [],.str [],.str [],.str [],.str [],.str [],.str [],.str [],.str [],.str [],.str [],.str [],.str [],.str [],.str [],.str [],.str []]),sz (.store 28 (.t 3) (.t 4))] false)
 (.seq
 (.region [ap 5 (.hO (.t 0)),ap 6 (.call 76 [(.t 5)]),ap 7 (.hO (.t 6)),bS 8 7 true (.Af 28 1 (.t 3)),bS 9 7 true (.hO (.t 0)),bS 10 7 true (.call 198 [(.t 8),(.t 9)]),bS 11 7 true (.not (.t 10)),ap 12 (.pick (.t 7) (.t 11) (.c (.bool false))),ap 2 (.hO (.t 12))] false)
 .ret)))
def Sr:List bc:=[.t 2]
theorem W0:bR Tryz.prog Tryz.f109 1 Mv Sr=true:=by kernel_rfl
def Mw:bm:=
 ag [ap 3 (.box 211 gR),bO 4] (a6 [J 5 0,ap 6 (.j6 199 [e7]),bn 7 162 [dU,ey],gV 8 7,J 4 8])
def Ss:List bc:=[.t 4]
theorem W1:bR Tryz.prog Tryz.f110 2 Mw Ss=true:=by kernel_rfl
def Mx:bm:=
 ag [ap 1 (.box 146 eQ),bO 2] (ag [aE 4 1 1,bD 5 3 4,ap 3 (.alloc 87 [.int .i64 0,.int .i64 0,.int .i64 0]),cn 3 3 dU] (aK (.block 0 (ag [aE 7 0 1,aH 8 7,bn 9 109 [dG],gV 10 9,J 11 10,bG 12 11 false 1 3,bP 13 11 false 12,fe 14 11 false 200 [ek],bS 15 11 false (.not fx),bN 16 dY dA en,J 17 16,bG 18 17 false 2 3,bP 19 17 false 18,fe 20 17 false 200 [eW],bS 21 17 false (.not ga),bN 22 fy dA fW,J 6 22] (a1 6 (a6 [bO 2]) (ag [aE 24 0 3,aH 25 24,aF 26 .neq gb (an 1),J 27 26,bG 28 27 true 0 3,bP 29 27 true 28,cv 30 27 true .neq hW (an 2),dh 31 27 true 30,bG 32 31 false 1 3,bP 33 31 false 32,cv 34 31 false .lss gK (an 0),bS 35 27 true (.pick hX dA iJ),dh 36 27 true 35,bG 37 36 false 2 3,bP 38 36 false 37,cv 39 36 false .lss j9 (an 0),bS 40 27 true (.pick gZ dA jk),bN 41 e6 jP cP,J 23 41] (a1 23 (a6 [bO 2]) .skip))))) (aK (ag [aE 42 4 1,aE 43 0 42,aH 44 43] (.block 1 (ag [aF 46 .eql jl (an 1),J 45 46] (a1 45 (a6 [aE 47 4 1,aE 48 1 47,aH 49 48,bn 50 200 [mJ],J 51 50,bG 52 51 true 4 1,bG 53 51 true 2 52,bP 54 51 true 53,cv 55 51 true .eql mb (bZ []),bN 56 kG lg cP,J 2 56]) (ag [aF 58 .eql jl (an 2),J 57 58] (a1 57 (a6 [aE 59 4 1,aE 60 1 59,aH 61 60,aF 62 .eql lh (an 0),J 63 62,bG 64 63 true 4 1,bG 65 63 true 2 64,bP 66 63 true 65,fe 67 63 true 201 [oe],bN 68 od nK cP,J 2 68]) .skip)))))) (a6 [bO 2]))))
def St:List bc:=[.t 2]
theorem W2:bR Tryz.prog Tryz.f111 1 Mx St=true:=by kernel_rfl
def My:bm:=
 ag [ap 3 (.box 198 gR),bO 4] (a6 [J 5 0,ap 6 (.j6 202 [e7]),bn 7 96 [dU,ey],gV 8 7,J 4 8])
def Su:List bc:=[.t 4]
theorem W3:bR Tryz.prog Tryz.f112 2 My Su=true:=by kernel_rfl
def Mz:bm:=
 ag [ap 1 (.box 84 eQ),bO 2] (ag [bq 3 (.c (.fn 203 []))] (a6 [aE 4 0 1,aH 5 4,bn 6 205 [dU],J 7 6,bG 8 7 true 1 1,bP 9 7 true 8,fe 10 7 true 109 [eC],bN 11 dx fU cP,J 12 11,bG 13 12 true 2 1,bP 14 12 true 13,bS 15 12 true (.len fx),cv 16 12 true .leq en (an 4),bN 17 dP fV cP,J 18 17,bG 19 18 true 2 1,bP 20 18 true 19,fe 21 18 true 206 [ga,.c (.fn 109 [])],bN 22 fD fW cP,J 23 22,bG 24 23 true 3 1,bP 25 23 true 24,fe 26 23 true 207 [gb,.c (.fn 208 [])],bN 27 fI gX cP,J 28 27,bG 29 28 true 3 1,bP 30 28 true 29,dh 31 28 true 3,fe 32 28 true 207 [jO,hX],bN 33 gY jc cP,J 2 33]))
def Sv:List bc:=[.t 2]
theorem W4:bR Tryz.prog Tryz.f113 1 Mz Sv=true:=by kernel_rfl
def MA:bm:=
 ag [ap 3 (.box 213 gR),bO 4] (a6 [J 5 0,ap 6 (.j6 210 [e7]),bn 7 209 [dU,ey],gV 8 7,J 4 8])
def Sw:List bc:=[.t 4]
theorem W5:bR Tryz.prog Tryz.f114 2 MA Sw=true:=by kernel_rfl
def MB:bm:=
 ag [ap 1 (.box 148 eQ),bO 2] (ag [bq 3 (.c (.fn 211 []))] (ag [aE 5 2 1,aH 6 5,aE 7 3 1,aH 8 7,ap 9 (.da 78 1 2 [.aD] [(0,ey),(1,dG)]),bn 10 213 [eC],J 4 10] (a6 [aE 11 0 1,aH 12 11,bn 13 205 [dP],J 14 13,bG 15 14 true 1 1,bP 16 14 true 15,fe 17 14 true 109 [fV],bN 18 fx fy cP,J 19 18,bG 20 19 true 2 1,bP 21 19 true 20,bS 22 19 true (.len fW),cv 23 19 true .leq gl (an 4),bN 24 eW fI cP,J 25 24,bG 26 25 true 3 1,bP 27 25 true 26,bS 28 25 true (.len e6),cv 29 25 true .leq gY (an 1),bN 30 gb hW cP,J 31 30,dh 32 31 true 4,fe 33 31 true 214 [jc,.c (.fn 215 [])],bN 34 hX gK cP,J 35 34,dh 36 35 true 4,dh 37 35 true 3,fe 38 35 true 214 [gZ,iW],bN 39 jj j9 cP,J 2 39])))
def Sx:List bc:=[.t 2]
theorem W6:bR Tryz.prog Tryz.f115 1 MB Sx=true:=by kernel_rfl
def MC:bm:=
 ag [ap 1 (.box 48 eQ),bq 2 (bZ [])] (ag [ap 12 (.build [.ev (.pointer none),.aD,.int .i64 0] []),ap 13 (.box 304 dP),J 3 13] (ag [J 14 3,aE 15 0 1,aH 16 15,aE 17 1 1,aH 18 17,aE 19 2 1,aH 20 19,ap 21 (.da 9 1 7 [.str []] [(0,bZ [115,101,114,118,105,99,101,32]),(1,fV),(2,bZ [32,112,108,97,121,115,32]),(3,fD),(4,bZ [32,111,102,32]),(5,ga),(6,bZ [32,123])]),bn 22 216 [fx,fW]] (ag [J 23 3,ap 24 (.eB fI),aE 25 2 24,cn 1 25 (an 1)] (aK (ag [aE 26 3 1,aH 27 26,cm 28 27,bq 29 (an 0)] (.block 0 (.loop (ag [aF 30 .lss hW gY] (aK (a1 30 .skip (.exit 0)) (aK (.block 1 (ag [ct 31 7 e6 hW,bD 32 7 31,ap 5 (.alloc 146 [.str [],.int .i64 0,.int .i64 0,.int .i64 0,.int .i64 0,.int .i64 0,.str []]),cn 7 5 jc] (ag [bq 6 (bZ [105,110,116,32])] (aK (ag [aE 33 1 5,aE 34 0 33,aH 35 34,aF 36 .eql jj (an 2)] (a1 36 (bV [bq 6 (bZ [116,101,120,116,32])]) .skip)) (.region [J 37 3,aE 38 0 5,aH 39 38,J 40 6,aE 41 1 5,aE 42 1 41,aH 43 42,gD 44 217 [jG],aE 45 1 5,aE 46 2 45,aH 47 46,gD 48 217 [ma],aE 49 4 5,bD 50 3 49,gD 51 218 [jH],ap 52 (.da 9 1 10 [.str []] [(0,bZ [118,97,114,32]),(1,jk),(2,bZ [58,32]),(3,jP),(4,jl),(5,bZ [32,46,46,32]),(6,nH),(7,bZ [32,61,32]),(8,kG),(9,bZ [59])]),bn 53 216 [iW,kX]] true))))) (bV [aF 54 .add hW (an 1),J 29 54]))))))) (aK (ag [aE 55 4 1,aH 56 55,cm 57 56,bq 58 (an 0)] (.block 2 (.loop (ag [aF 59 .lss kH lM] (aK (a1 59 .skip (.exit 2)) (aK (.block 3 (ag [ct 60 4 mc kH,bD 61 4 60,ap 8 (.alloc 84 [.str [],.str [],.aD,.aD]),cn 4 8 lh] (aK (.region [J 62 3,aE 63 0 8,aH 64 63,aE 65 2 8,aH 66 65,gD 67 219 [oe,bZ [44,32]],aE 68 1 8,aH 69 68,ap 70 (.da 9 1 7 [.str []] [(0,bZ [111,110,32]),(1,nJ),(2,bZ [40]),(3,nK),(4,bZ [41,32,102,114,111,109,32]),(5,pK),(6,bZ [32,123])]),bn 71 216 [pI,nL]] true) (ag [J 72 3,aE 73 3 8,aH 74 73,bn 75 220 [s4,pM]] (bV [J 76 3,ap 77 (.da 9 1 1 [.str []] [(0,bZ [125])]),bn 78 216 [ue,pN]]))))) (bV [aF 79 .add kH (an 1),J 58 79]))))))) (aK (ag [aE 80 5 1,aH 81 80,cm 82 81,bq 83 (an 0)] (.block 4 (.loop (ag [aF 84 .lss vF Fg] (aK (a1 84 .skip (.exit 4)) (aK (.block 5 (ag [ct 85 4 s5 vF,bD 86 4 85,ap 10 (.alloc 148 [.str [],.str [],.aD,.aD]),cn 4 10 vH] (ag [bq 11 (bZ [])] (aK (ag [aE 87 3 10,aH 88 87,cm 89 88,aF 90 .gtr yE (an 0)] (a1 90 (bV [aE 91 3 10,aH 92 91,ct 93 6 xc (an 0),bD 94 6 93,bn 95 221 [CM],aF 96 .add (bZ [32,119,104,101,114,101,32]) Fh,J 11 96]) .skip)) (.region [J 97 3,aE 98 0 10,aH 99 98,aE 100 2 10,aH 101 100,gD 102 222 [JL],aE 103 1 10,aH 104 103,J 105 11,ap 106 (.da 9 1 8 [.str []] [(0,bZ [111,102,102,101,114,32]),(1,JX),(2,bZ [40]),(3,JM),(4,bZ [41,32,116,111,32]),(5,Vh),(6,Fe),(7,bZ [59])]),bn 107 216 [CN,JO]] true))))) (bV [aF 108 .add vF (an 1),J 83 108]))))))) (ag [J 109 3,ap 110 (.eB Vj),aE 111 2 110,cn 1 111 (an 0)] (ag [J 112 3,ap 113 (.da 9 1 1 [.str []] [(0,bZ [125])]),bn 114 216 [Vl,Vm]] (a6 [J 115 3,ap 116 (.eB Ff),aE 117 0 116,bn 118 223 [Vp],J 2 118])))))))))
def Sy:List bc:=[.t 2]
theorem W7:bR Tryz.prog Tryz.f116 1 MC Sy=true:=by kernel_rfl
def MD:bm:=
 ag [bq 2 (an 0)] (ag [J 5 0,cm 6 5,J 3 6] (aK (ag [bq 4 (an 0)] (.block 0 (.loop (aK (ag [J 7 4,J 8 0,cm 9 8,aF 10 .lss dx eC] (a1 10 .skip (.exit 0))) (aK (.block 1 (.region [J 13 3,J 14 0,J 15 4,ct 16 11 fx en,aE 17 2 16,bD 18 6 17,ap 19 (.da 120 6 1 [.int .i64 0,.str [],.str [],.str [],.int .i64 0,.aD] [(0,fD)]),gD 20 119 [eW],J 21 0,J 22 4,ct 23 11 fW gl,aE 24 9 23,aH 25 24,gD 26 118 [gb],aF 27 .add ga gX,J 28 0,J 29 4,ct 30 11 gY hW,aE 31 10 30,aH 32 31,gD 33 118 [jc],aF 34 .add e6 gK,aF 35 .add ek iJ,J 3 35] true)) (bV [J 11 4,aF 12 .add dY (an 1),J 4 12])))))) (a6 [J 36 3,J 2 36])))
def Sz:List bc:=[.t 2]
theorem W8:bR Tryz.prog Tryz.f118 1 MD Sz=true:=by kernel_rfl
def ME:bm:=
 ag [bq 2 (an 0)] (ag [J 5 0,cm 6 5,J 3 6] (aK (ag [bq 4 (an 0)] (.block 0 (.loop (aK (ag [J 7 4,J 8 0,cm 9 8,aF 10 .lss dx eC] (a1 10 .skip (.exit 0))) (aK (.block 1 (bV [J 13 3,J 14 0,J 15 4,ct 16 6 fx en,aE 17 5 16,aH 18 17,bn 19 119 [fD],aF 20 .add ek eW,J 3 20])) (bV [J 11 4,aF 12 .add dY (an 1),J 4 12])))))) (a6 [J 21 3,J 2 21])))
def SA:List bc:=[.t 2]
theorem W9:bR Tryz.prog Tryz.f119 1 ME SA=true:=by kernel_rfl
def MI:bm:=
 ag [bO 2] (a6 [J 3 0,aF 4 .leq (.c (.int .u8 97)) e7,J 5 4,dh 6 5 true 0,cv 7 5 true .leq ey (.c (.int .u8 122)),bN 8 dU dx cP,J 9 8,dh 10 9 false 0,cv 11 9 false .leq (.c (.int .u8 65)) fU,dh 12 9 false 11,dh 13 12 true 0,cv 14 12 true .leq ek (.c (.int .u8 90)),bS 15 9 false (.pick dP fx cP),bN 16 eC dA en,J 2 16])
def SE:List bc:=[.t 2]
theorem Xd:bR Tryz.prog Tryz.f145 1 MI SE=true:=by kernel_rfl
def MJ:bm:=
 ag [bO 2] (a6 [J 3 0,bn 4 145 [e7],J 5 4,dh 6 5 false 0,fe 7 5 false 242 [ey],bN 8 dU dA dx,J 9 8,dh 10 9 false 0,cv 11 9 false .eql fU (.c (.int .u8 95)),bN 12 eC dA dY,J 2 12])
def SF:List bc:=[.t 2]
theorem Xe:bR Tryz.prog Tryz.f146 1 MJ SF=true:=by kernel_rfl
def Gy:bm:=
 ag [bO 4] (a6 [J 5 0,J 6 1,bn 7 261 [dU,ey],aF 8 .geq dx (an 0),J 4 8])
def I2:List bc:=[.t 4]
theorem Lq:bR Tryz.prog Tryz.f162 2 Gy I2=true:=by kernel_rfl
def DD:bm:=
 ag [bq 4 (an 0)] (aK (ag [J 6 0,cm 7 6,bq 8 (an 0)] (.block 0 (.loop (ag [aF 9 .lss dG dx] (aK (a1 9 .skip (.exit 0)) (aK (.block 1 (ag [J 10 8,J 5 10] (ag [J 11 1,J 12 0,J 13 5,ct 14 4 dP ek,bD 15 4 14,ap 16 (.gT dY [en])] (a1 16 (a6 [J 17 5,J 4 17]) .skip)))) (bV [aF 18 .add dG (an 1),J 8 18]))))))) (a6 [bq 4 (an (-1))]))
def EV:List bc:=[.t 4]
theorem FP:bR Tryz.prog Tryz.f183 2 DD EV=true:=by kernel_rfl
def MZ:bm:=
 ag [bO 4] (a6 [J 5 0,J 6 1,bn 7 93 [dU,ey],aF 8 .geq dx (an 0),J 4 8])
def SW:List bc:=[.t 4]
theorem Xu:bR Tryz.prog Tryz.f198 2 MZ SW=true:=by kernel_rfl
def M0:bm:=
 ag [ap 2 (.box 146 eQ),bO 3] (a6 [aH 4 1,bD 5 7 2,ap 6 (.gT iv [dU]),gV 7 6,J 3 7])
def SX:List bc:=[.t 3]
theorem Xv:bR Tryz.prog Tryz.f199 1 M0 SX=true:=by kernel_rfl
def M1:bm:=
 ag [bO 2] (a6 [J 3 0,aF 4 .geq e7 (an (-999999)),J 5 4,dh 6 5 true 0,cv 7 5 true .leq ey (an 999999),bN 8 dU dx cP,J 2 8])
def SZ:List bc:=[.t 2]
theorem Xx:bR Tryz.prog Tryz.f200 1 M1 SZ=true:=by kernel_rfl
def M2:bm:=
 ag [bO 2] (a6 [J 3 0,ap 4 (.mT e7),aF 5 .leq iv (an 40),J 6 5,dh 7 6 true 0,fe 8 6 true 293 [dx,.c (.fn 294 [])],bS 9 6 true (.not dG),bN 10 ey eC cP,J 2 10])
def S0:List bc:=[.t 2]
theorem Xy:bR Tryz.prog Tryz.f201 1 M2 S0=true:=by kernel_rfl
def M3:bm:=
 ag [ap 2 (.box 84 eQ),bO 3] (a6 [aH 4 1,bD 5 4 2,ap 6 (.gT iv [dU]),gV 7 6,J 3 7])
def S1:List bc:=[.t 3]
theorem Xz:bR Tryz.prog Tryz.f202 1 M3 S1=true:=by kernel_rfl
def M4:bm:=
 ag [ap 1 (.box 82 eQ),bO 2] (a6 [bD 3 11 1,bn 4 204 [e7],aF 5 .leq iv (an 10),J 2 5])
def S2:List bc:=[.t 2]
theorem XA:bR Tryz.prog Tryz.f203 1 M4 S2=true:=by kernel_rfl
def M5:bm:=
 ag [ap 1 (.box 82 eQ),bq 2 (an 0)] (ag [aE 6 2 1,bD 7 6 6,bn 8 212 [dx],J 3 8] (aK (ag [aE 9 9 1,aH 10 9,aE 11 10 1,aH 12 11,ap 13 (.da 77 1 2 [.aD] [(0,fU),(1,dP)]),bn 14 295 [ek],cm 15 14,bq 16 (an 0)] (.block 0 (.loop (ag [aF 17 .lss fV en] (aK (a1 17 .skip (.exit 0)) (aK (.block 1 (ag [ct 18 11 fx fV,bD 19 11 18,ap 5 (.alloc 82 [.int .i64 0,.str [],.int .i64 0,.str [],.str [],.str [],.int .i64 0,.aD,.int .i64 0,.aD,.aD]),cn 11 5 eW] (bV [J 20 3,bD 21 11 5,bn 22 204 [fW],ap 23 (.l1 true [ga,gl]),J 3 23]))) (bV [aF 24 .add fV (an 1),J 16 24]))))))) (a6 [J 25 3,aF 26 .add (an 1) gb,J 2 26])))
def S3:List bc:=[.t 2]
theorem XB:bR Tryz.prog Tryz.f204 1 M5 S3=true:=by kernel_rfl
def M6:bm:=
 ag [bO 2] (a6 [J 3 0,ap 4 (.mT e7),aF 5 .leq iv (an 50),J 6 5,dh 7 6 true 0,fe 8 6 true 297 [dx,bZ [46]],fe 9 6 true 296 [dG,.c (.fn 298 [])],bS 10 6 true (.not eC),bN 11 ey fU cP,J 2 11])
def S4:List bc:=[.t 2]
theorem XC:bR Tryz.prog Tryz.f205 1 M6 S4=true:=by kernel_rfl
def M7:bm:=
 ag [ap 3 (.box 174 gR),bO 4] (a6 [J 5 0,ap 6 (.j6 299 [e7]),bn 7 296 [dU,ey],gV 8 7,J 4 8])
def S5:List bc:=[.t 4]
theorem XD:bR Tryz.prog Tryz.f206 2 M7 S5=true:=by kernel_rfl
def M8:bm:=
 ag [ap 3 (.box 293 gR),bO 4] (a6 [J 5 0,ap 6 (.j6 301 [e7]),bn 7 300 [dU,ey],gV 8 7,J 4 8])
def S6:List bc:=[.t 4]
theorem XE:bR Tryz.prog Tryz.f207 2 M8 S6=true:=by kernel_rfl
def M9:bm:=
 ag [ap 1 (.box 82 eQ),bO 2] (aK (ag [aE 3 0 1,aH 4 3] (.block 0 (ag [aF 6 .eql iv (an 1),J 5 6] (a1 5 (ag [aE 7 1 1,aH 8 7,bn 9 109 [dG],gV 10 9,J 11 10,bG 12 11 false 8 1,bP 13 11 false 12,cv 14 11 false .neq ek (an 0),bN 15 dY dA fx,J 16 15,bG 17 16 false 9 1,bP 18 16 false 17,bS 19 16 false (.len fD),cv 20 16 false .gtr eW (an 0),bN 21 fV dA ga,J 22 21,bG 23 22 false 10 1,bP 24 22 false 23,bS 25 22 false (.len fu),cv 26 22 false .gtr gb (an 0),bN 27 gl dA gX] (a1 27 (a6 [bO 2]) .skip)) (ag [aF 29 .eql iv (an 2),J 28 29] (a1 28 (ag [aE 30 1 1,aH 31 30,aF 32 .neq hX (bZ []),J 33 32,bG 34 33 false 8 1,bP 35 33 false 34,cv 36 33 false .neq jj (an 0),bN 37 gK dA gZ] (a1 37 (a6 [bO 2]) .skip)) (ag [aF 39 .eql iv (an 3),J 38 39] (a1 38 (ag [aE 40 1 1,aH 41 40,aF 42 .neq iw (bZ []),J 43 42,bG 44 43 false 8 1,bP 45 43 false 44,cv 46 43 false .lss ka (an 1),bN 47 jG dA kF,J 48 47,bG 49 48 false 8 1,bP 50 48 false 49,cv 51 48 false .gtr jH (an 50),bN 52 nH dA kG,J 53 52,bG 54 53 false 10 1,bP 55 53 false 54,bS 56 53 false (.len lg),cv 57 53 false .gtr mc (an 0),bN 58 na dA lM] (a1 58 (a6 [bO 2]) .skip)) (a6 [bO 2]))))))))) (a6 [aE 59 2 1,bD 60 6 59,bn 61 215 [nI],J 62 61,bG 63 62 true 9 1,bP 64 62 true 63,fe 65 62 true 207 [nJ,.c (.fn 208 [])],bN 66 pI pJ cP,J 67 66,bG 68 67 true 10 1,bP 69 67 true 68,fe 70 67 true 207 [pK,.c (.fn 208 [])],bN 71 nK nL cP,J 2 71]))
def S7:List bc:=[.t 2]
theorem XF:bR Tryz.prog Tryz.f208 1 M9 S7=true:=by kernel_rfl
def Na:bm:=
 ag [bO 4] (a6 [J 5 0,J 6 1,bn 7 302 [dU,ey],aF 8 .geq dx (an 0),J 4 8])
def S8:List bc:=[.t 4]
theorem XG:bR Tryz.prog Tryz.f209 2 Na S8=true:=by kernel_rfl
def Nc:bm:=
 ag [ap 2 (.box 148 eQ),bO 3] (a6 [aH 4 1,bD 5 4 2,ap 6 (.gT iv [dU]),gV 7 6,J 3 7])
def Ta:List bc:=[.t 3]
theorem XI:bR Tryz.prog Tryz.f210 1 Nc Ta=true:=by kernel_rfl
def Nd:bm:=
 ag [ap 1 (.box 80 eQ),bO 2] (a6 [bD 3 6 1,bn 4 212 [e7],aF 5 .leq iv (an 10),J 2 5])
def Tb:List bc:=[.t 2]
theorem XJ:bR Tryz.prog Tryz.f211 1 Nd Tb=true:=by kernel_rfl
def Nf:bm:=
 ag [ap 1 (.box 80 eQ),bq 2 (an 0)] (ag [bq 3 (an 0)] (aK (ag [aE 6 5 1,aH 7 6,cm 8 7,bq 9 (an 0)] (.block 0 (.loop (ag [aF 10 .lss eC dG] (aK (a1 10 .skip (.exit 0)) (aK (.block 1 (ag [ct 11 6 dx eC,bD 12 6 11,ap 5 (.alloc 80 [.int .i64 0,.str [],.str [],.str [],.int .i64 0,.aD]),cn 6 5 dP] (bV [J 13 3,bD 14 6 5,bn 15 212 [fx],ap 16 (.l1 true [ek,en]),J 3 16]))) (bV [aF 17 .add eC (an 1),J 9 17]))))))) (a6 [J 18 3,aF 19 .add (an 1) fD,J 2 19])))
def Tc:List bc:=[.t 2]
theorem XK:bR Tryz.prog Tryz.f212 1 Nf Tc=true:=by kernel_rfl
def Ng:bm:=
 ag [bq 2 (.c .aD)] (ag [bq 3 (an 0)] (aK (ag [J 9 0,cm 10 9,bq 11 (an 0)] (.block 0 (.loop (ag [aF 12 .lss dY fU] (aK (a1 12 .skip (.exit 0)) (aK (.block 1 (ag [ct 13 1 eC dY,aH 14 13,J 5 14] (ag [J 15 3,J 16 5,cm 17 16,aF 18 .add en fy,J 3 18] (ag [J 19 3,aF 20 .lss eW (an 0)] (a1 20 (bV [ap 21 (.qM 9 (bZ [108,101,110,32,111,117,116,32,111,102,32,114,97,110,103,101])),sz (.panic fW)]) .skip))))) (bV [aF 22 .add dY (an 1),J 11 22]))))))) (ag [J 23 3,bn 24 303 [.c .aD,fI],J 6 24] (aK (ag [J 25 0,cm 26 25,bq 27 (an 0)] (.block 2 (.loop (ag [aF 28 .lss e6 gX] (aK (a1 28 .skip (.exit 2)) (aK (.block 3 (ag [ct 29 1 gb e6,aH 30 29,J 8 30] (bV [J 31 6,J 32 8,ap 33 (.append 80 6 88 hX jc),J 6 33]))) (bV [aF 34 .add e6 (an 1),J 27 34]))))))) (a6 [J 35 6,J 2 35])))))
def Td:List bc:=[.t 2]
theorem XL:bR Tryz.prog Tryz.f213 1 Ng Td=true:=by kernel_rfl
def Nh:bm:=
 ag [ap 3 (.box 296 gR),bO 4] (a6 [J 5 0,ap 6 (.j6 305 [e7]),bn 7 304 [dU,ey],gV 8 7,J 4 8])
def Te:List bc:=[.t 4]
theorem XM:bR Tryz.prog Tryz.f214 2 Nh Te=true:=by kernel_rfl
def Ni:bm:=
 ag [ap 1 (.box 80 eQ),bO 2] (ag [aE 5 0 1,aH 6 5,aE 7 5 1,aH 8 7,ap 9 (.build [.int .i64 0,.str [],.str [],.str [],.int .i64 0,.aD] [(0,1,ey),(5,1,dG)]),ap 3 (.alloc 80 [.int .i64 0,.str [],.str [],.str [],.int .i64 0,.aD]),cn 6 3 eC] (ag [bq 4 (an 0)] (aK (ag [aE 10 0 1,aH 11 10] (.block 0 (ag [aF 13 .eql dY (an 1),J 12 13] (a1 12 (ag [aE 14 4 1,aH 15 14,aE 16 4 3,cn 1 16 en] (ag [aE 17 4 1,aH 18 17,aF 19 .lss fD (an 0),J 20 19,bG 21 20 false 4 1,bP 22 20 false 21,cv 23 20 false .gtr gl (an 1000),bN 24 ga dA fI] (a1 24 (a6 [bO 2]) .skip))) (ag [aF 26 .eql dY (an 2),J 25 26] (a1 25 (ag [aE 27 3 1,aH 28 27,aE 29 3 3,cn 1 29 gY] (ag [aE 30 3 1,aH 31 30,bn 32 201 [hX],gV 33 32] (a1 33 (a6 [bO 2]) .skip))) (ag [aF 35 .eql dY (an 3),J 34 35] (a1 34 (ag [aE 36 2 1,aH 37 36,aE 38 2 3,cn 1 38 iW] (ag [aE 39 2 1,aH 40 39,bn 41 109 [jP],gV 42 41] (a1 42 (a6 [bO 2]) .skip))) (ag [aF 44 .eql dY (an 4),J 43 44] (a1 43 (bV [bq 4 (an 1)]) (ag [aF 46 .eql dY (an 5),J 45 46] (a1 45 (ag [aE 47 1 1,aH 48 47,aE 49 1 3,cn 1 49 nH,bq 4 (an 1)] (ag [aE 50 1 1,aH 51 50,aF 52 .neq kG (bZ [45]),J 53 52,bG 54 53 true 1 1,bP 55 53 true 54,cv 56 53 true .neq lg (bZ [33]),bN 57 na mc cP] (a1 57 (a6 [bO 2]) .skip))) (ag [aF 59 .eql dY (an 6),J 58 59] (a1 58 (ag [aE 60 1 1,aH 61 60,aE 62 1 3,cn 1 62 lh,bq 4 (an 2)] (ag [aE 63 1 1,aH 64 63,bn 65 306 [nJ],aF 66 .eql pJ (an 0)] (a1 66 (a6 [bO 2]) .skip))) (a6 [bO 2]))))))))))))))) (a6 [aE 67 5 1,aH 68 67,cm 69 68,J 70 4,aF 71 .eql pK nL,J 72 71,bG 73 72 true 1 1,bP 74 72 true 73,bG 75 72 true 1 3,bP 76 72 true 75,cv 77 72 true .eql pM ue,bN 78 s4 pN cP,J 79 78,bG 80 79 true 2 1,bP 81 79 true 80,bG 82 79 true 2 3,bP 83 79 true 82,cv 84 79 true .eql s5 vF,bN 85 xa vG cP,J 86 85,bG 87 86 true 3 1,bP 88 86 true 87,bG 89 86 true 3 3,bP 90 86 true 89,cv 91 86 true .eql Am An,bN 92 vH Ao cP,J 93 92,bG 94 93 true 4 1,bP 95 93 true 94,bG 96 93 true 4 3,bP 97 93 true 96,cv 98 93 true .eql Fh CN,bN 99 CL Fj cP,J 100 99,bG 101 100 true 5 1,bP 102 100 true 101,fe 103 100 true 214 [JM,.c (.fn 215 [])],bN 104 JK JN cP,J 2 104]))))
def Tf:List bc:=[.t 2]
theorem XN:bR Tryz.prog Tryz.f215 1 Ni Tf=true:=by kernel_rfl
def Nj:bm:=
 aK (.region [J 6 0,ap 7 (.eB ey),aE 8 0 7,J 9 0,ap 10 (.eB eC),aE 11 2 10,aH 12 11,gD 13 308 [bZ [9],dP],bn 14 307 [dG,ek]] true) (aK (ag [J 15 1,cm 16 15,bq 17 (an 0)] (.block 0 (.loop (ag [aF 18 .lss fy fV] (aK (a1 18 .skip (.exit 0)) (aK (.block 1 (ag [ct 19 1 en fy,aH 20 19,J 5 20] (bV [J 21 0,ap 22 (.eB fW),aE 23 0 22,J 24 5,bn 25 307 [fI,fu]]))) (bV [aF 26 .add fy (an 1),J 17 26]))))))) (bV [J 27 0,ap 28 (.eB e6),aE 29 0 28,bn 30 309 [hW,.c (.int .u8 10)]]))
def Tg:List bc:=[]
theorem XO:bR Tryz.prog Tryz.f216 2 Nj Tg=true:=by kernel_rfl
def Nk:bm:=
 ag [ap 1 (.box 89 eQ),bq 2 (bZ [])] (aK (ag [aE 3 0 1,aH 4 3,aF 5 .eql iv (an 2)] (a1 5 (a6 [aE 6 2 1,aH 7 6,bn 8 311 [dx],J 2 8]) .skip)) (a6 [aE 9 1 1,aH 10 9,bn 11 217 [fU],J 2 11]))
def Th:List bc:=[.t 2]
theorem XP:bR Tryz.prog Tryz.f218 1 Nk Th=true:=by kernel_rfl
def Nl:bm:=
 ag [J 6 0,ap 7 (.eB ey),aE 8 2 7,aH 9 8,aF 10 .add eC (an 1),ap 11 (.eB ey),aE 12 2 11,cn 1 12 fU] (aK (ag [J 13 1,cm 14 13,bq 15 (an 0)] (.block 0 (.loop (ag [aF 16 .lss en fx] (aK (a1 16 .skip (.exit 0)) (aK (.block 1 (ag [ct 17 11 ek en,bD 18 11 17,ap 5 (.alloc 82 [.int .i64 0,.str [],.int .i64 0,.str [],.str [],.str [],.int .i64 0,.aD,.int .i64 0,.aD,.aD]),cn 11 5 fD] (bV [J 19 0,bD 20 11 5,bn 21 313 [eW,ga]]))) (bV [aF 22 .add en (an 1),J 15 22]))))))) (bV [J 23 0,ap 24 (.eB fI),aE 25 2 24,aH 26 25,aF 27 .sub gX (an 1),ap 28 (.eB fI),aE 29 2 28,cn 1 29 e6]))
def Tj:List bc:=[]
theorem XR:bR Tryz.prog Tryz.f220 2 Nl Tj=true:=by kernel_rfl
def GC:bm:=
 ag [ap 1 (.box 80 eQ),bq 2 (bZ [])] (aK (ag [aE 4 0 1,aH 5 4] (.block 0 (ag [aF 7 .eql dU (an 1),J 6 7] (a1 6 (a6 [aE 8 4 1,aH 9 8,bn 10 217 [eC],J 2 10]) (ag [aF 12 .eql dU (an 2),J 11 12] (a1 11 (a6 [aE 13 3 1,aH 14 13,bn 15 311 [fx],J 2 15]) (ag [aF 17 .eql dU (an 3),J 16 17] (a1 16 (a6 [aE 18 2 1,aH 19 18,J 2 19]) (ag [aF 21 .eql dU (an 4),J 20 21] (a1 20 (a6 [aE 22 5 1,aH 23 22,ct 24 6 fI (an 0),bD 25 6 24,bn 26 221 [gb],aF 27 .add (bZ [108,101,110,40]) gX,aF 28 .add e6 (bZ [41]),J 2 28]) (ag [aF 30 .eql dU (an 5),J 29 30] (a1 29 (aK (.region [aE 31 1 1,aH 32 31,aE 33 5 1,aH 34 33,ct 35 6 iJ (an 0),bD 36 6 35,gD 37 314 [gZ,an 7],aF 38 .add jc iW,J 2 38] true) .ret) .skip)))))))))))) (ag [aE 39 1 1,aH 40 39,bn 41 306 [jP],J 3 41] (aK (.region [aE 42 5 1,aH 43 42,ct 44 6 jG (an 0),bD 45 6 44,J 46 3,gD 47 314 [ka,kF],aF 48 .add ma (bZ [32]),aE 49 1 1,aH 50 49,aF 51 .add nH jH,aF 52 .add kG (bZ [32]),aE 53 5 1,aH 54 53,ct 55 6 mb (an 1),bD 56 6 55,J 57 3,aF 58 .add lM (an 1),gD 59 314 [mc,kH],aF 60 .add kX mK,J 2 60] true) .ret)))
def Tk:List bc:=[.t 2]
theorem XS:bR Tryz.prog Tryz.f221 1 GC Tk=true:=by kernel_rfl
def Nn:bm:=
 ag [bq 2 (bZ [])] (ag [bq 3 (.c .aD)] (aK (ag [J 6 0,cm 7 6,bq 8 (an 0)] (.block 0 (.loop (ag [aF 9 .lss dG dx] (aK (a1 9 .skip (.exit 0)) (aK (.block 1 (ag [ct 10 6 ey dG,bD 11 6 10,ap 5 (.alloc 80 [.int .i64 0,.str [],.str [],.str [],.int .i64 0,.aD]),cn 6 5 dY] (bV [J 12 3,bD 13 6 5,bn 14 221 [ek],ap 15 (.da 9 1 1 [.str []] [(0,fx)]),ap 16 (.append 9 1 16 dP en),J 3 16]))) (bV [aF 17 .add dG (an 1),J 8 17]))))))) (a6 [J 18 3,bn 19 219 [fD,bZ [44,32]],J 2 19])))
def Tl:List bc:=[.t 2]
theorem XT:bR Tryz.prog Tryz.f222 1 Nn Tl=true:=by kernel_rfl
def GF:bm:=
 ag [bq 4 (an 0)] (aK (ag [J 6 0,cm 7 6,bq 8 (an 0)] (.block 0 (.loop (ag [aF 9 .lss dG dx] (aK (a1 9 .skip (.exit 0)) (aK (.block 1 (ag [J 10 8,J 5 10] (ag [J 11 1,J 12 0,J 13 5,ct 14 7 dP ek,bD 15 7 14,ap 16 (.gT dY [en])] (a1 16 (a6 [J 17 5,J 4 17]) .skip)))) (bV [aF 18 .add dG (an 1),J 8 18]))))))) (a6 [bq 4 (an (-1))]))
def I6:List bc:=[.t 4]
theorem Lu:bR Tryz.prog Tryz.f261 2 GF I6=true:=by kernel_rfl
def NF:bm:=
 (.seq
 (.region [ap 2 (.hO (.c (.bool false)))] false)
 (.seq
 (.region [ap 3 (.hO (.t 0)),ap 4 (.bin .lss (.t 3) (.c (.int .i32 32))),ap 5 (.hO (.t 4)),bS 6 5 false (.hO (.t 0)),bS 7 5 false (.bin .gtr (.t 6) (.c (.int .i32 126))),ap 8 (.pick (.t 5) (.c (.bool true)) (.t 7)),ap 2 (.hO (.t 8))] false)
 .ret))
def TG:List bc:=[.t 2]
theorem Ye:bR Tryz.prog Tryz.f294 1 NF TG=true:=by kernel_rfl
def NG:bm:=
 ag [bq 2 (.c .aD)] (ag [bq 3 (an 0)] (aK (ag [J 9 0,cm 10 9,bq 11 (an 0)] (.block 0 (.loop (ag [aF 12 .lss dY fU] (aK (a1 12 .skip (.exit 0)) (aK (.block 1 (ag [ct 13 1 eC dY,aH 14 13,J 5 14] (ag [J 15 3,J 16 5,cm 17 16,aF 18 .add en fy,J 3 18] (ag [J 19 3,aF 20 .lss eW (an 0)] (a1 20 (bV [ap 21 (.qM 9 (bZ [108,101,110,32,111,117,116,32,111,102,32,114,97,110,103,101])),sz (.panic fW)]) .skip))))) (bV [aF 22 .add dY (an 1),J 11 22]))))))) (ag [J 23 3,bn 24 355 [.c .aD,fI],J 6 24] (aK (ag [J 25 0,cm 26 25,bq 27 (an 0)] (.block 2 (.loop (ag [aF 28 .lss e6 gX] (aK (a1 28 .skip (.exit 2)) (aK (.block 3 (ag [ct 29 1 gb e6,aH 30 29,J 8 30] (bV [J 31 6,J 32 8,ap 33 (.append 82 11 168 hX jc),J 6 33]))) (bV [aF 34 .add e6 (an 1),J 27 34]))))))) (a6 [J 35 6,J 2 35])))))
def TH:List bc:=[.t 2]
theorem Yf:bR Tryz.prog Tryz.f295 1 NG TH=true:=by kernel_rfl
def GH:bm:=
 ag [bO 4] (a6 [J 5 0,J 6 1,bn 7 356 [dU,ey],aF 8 .geq dx (an 0),J 4 8])
def I8:List bc:=[.t 4]
theorem Lw:bR Tryz.prog Tryz.f296 2 GH I8=true:=by kernel_rfl
def NH:bm:=
 ag [bO 2] (a6 [J 3 0,bn 4 109 [e7],gV 5 4,J 2 5])
def TI:List bc:=[.t 2]
theorem Yg:bR Tryz.prog Tryz.f298 1 NH TI=true:=by kernel_rfl
def NI:bm:=
 ag [bO 3] (a6 [aH 4 1,J 5 0,ap 6 (.gT iv [dU]),gV 7 6,J 3 7])
def TJ:List bc:=[.t 3]
theorem Yh:bR Tryz.prog Tryz.f299 1 NI TJ=true:=by kernel_rfl
def NK:bm:=
 ag [bO 4] (a6 [J 5 0,J 6 1,bn 7 358 [dU,ey],aF 8 .geq dx (an 0),J 4 8])
def TL:List bc:=[.t 4]
theorem Yj:bR Tryz.prog Tryz.f300 2 NK TL=true:=by kernel_rfl
def NL:bm:=
 ag [ap 2 (.box 82 eQ),bO 3] (a6 [aH 4 1,bD 5 11 2,ap 6 (.gT iv [dU]),gV 7 6,J 3 7])
def TM:List bc:=[.t 3]
theorem Yk:bR Tryz.prog Tryz.f301 1 NL TM=true:=by kernel_rfl
def NM:bm:=
 ag [bq 4 (an 0)] (aK (ag [J 6 0,cm 7 6,bq 8 (an 0)] (.block 0 (.loop (ag [aF 9 .lss dG dx] (aK (a1 9 .skip (.exit 0)) (aK (.block 1 (ag [J 10 8,J 5 10] (ag [J 11 1,J 12 0,J 13 5,ct 14 4 dP ek,bD 15 4 14,ap 16 (.gT dY [en])] (a1 16 (a6 [J 17 5,J 4 17]) .skip)))) (bV [aF 18 .add dG (an 1),J 8 18]))))))) (a6 [bq 4 (an (-1))]))
def TN:List bc:=[.t 4]
theorem Yl:bR Tryz.prog Tryz.f302 2 NM TN=true:=by kernel_rfl
def NN:bm:=
 ag [bO 4] (a6 [J 5 0,J 6 1,bn 7 359 [dU,ey],aF 8 .geq dx (an 0),J 4 8])
def TO:List bc:=[.t 4]
theorem Ym:bR Tryz.prog Tryz.f304 2 NN TO=true:=by kernel_rfl
def NO:bm:=
 ag [ap 2 (.box 80 eQ),bO 3] (a6 [aH 4 1,bD 5 6 2,ap 6 (.gT iv [dU]),gV 7 6,J 3 7])
def TP:List bc:=[.t 3]
theorem Yn:bR Tryz.prog Tryz.f305 1 NO TP=true:=by kernel_rfl
def NP:bm:=
 ag [bq 2 (an 0)] (aK (ag [J 3 0] (.block 0 (ag [aF 5 .eql e7 (bZ [124,124]),J 4 5] (a1 4 (a6 [bq 2 (an 1)]) (ag [aF 7 .eql e7 (bZ [38,38]),J 6 7] (a1 6 (a6 [bq 2 (an 2)]) (aK (ag [aF 9 .eql e7 (bZ [61,61]),J 8 9] (a1 8 .skip (bV [aF 10 .eql e7 (bZ [33,61]),J 8 10]))) (a1 8 (a6 [bq 2 (an 3)]) (aK (ag [aF 12 .eql e7 (bZ [60]),J 11 12] (a1 11 .skip (ag [aF 13 .eql e7 (bZ [60,61]),J 11 13] (a1 11 .skip (ag [aF 14 .eql e7 (bZ [62]),J 11 14] (a1 11 .skip (bV [aF 15 .eql e7 (bZ [62,61]),J 11 15]))))))) (a1 11 (a6 [bq 2 (an 4)]) (aK (ag [aF 17 .eql e7 (bZ [43]),J 16 17] (a1 16 .skip (bV [aF 18 .eql e7 (bZ [45]),J 16 18]))) (a1 16 (a6 [bq 2 (an 5)]) (aK (ag [aF 20 .eql e7 (bZ [42]),J 19 20] (a1 19 .skip (ag [aF 21 .eql e7 (bZ [47]),J 19 21] (a1 19 .skip (bV [aF 22 .eql e7 (bZ [37]),J 19 22]))))) (a1 19 (a6 [bq 2 (an 6)]) .skip)))))))))))))) (a6 [bq 2 (an 0)]))
def TQ:List bc:=[.t 2]
theorem Yo:bR Tryz.prog Tryz.f306 1 NP TQ=true:=by kernel_rfl
def NQ:bm:=
 ag [bq 4 (an 0),bq 5 (.c (.ev .nilIface))] (ag [J 6 0,bn 7 360 [ey]] (ag [J 8 0,J 9 0,ap 10 (.eB eC),aE 11 1 10,aH 12 11,J 13 1,ap 14 (.append 5 1 1 dP ek),ap 15 (.eB dG),aE 16 1 15,cn 1 16 fx] (a6 [J 17 1,ap 18 (.mT fy),J 4 18,bq 5 (.c (.ev .nilIface))])))
def TR:List bc:=[.t 4,.t 5]
theorem Yp:bR Tryz.prog Tryz.f307 2 NQ TR=true:=by kernel_rfl
def NR:bm:=
 ag [bq 4 (.c (.ev .nilIface))] (ag [J 5 0,bn 6 360 [dU]] (ag [J 7 0,J 8 0,ap 9 (.eB dG),aE 10 1 9,aH 11 10,J 12 1,ap 13 (.da 5 1 1 [.int .u8 0] [(0,dP)]),ap 14 (.append 5 1 1 dY ek),ap 15 (.eB dx),aE 16 1 15,cn 1 16 fx] (a6 [bq 4 (.c (.ev .nilIface))])))
def TS:List bc:=[.t 4]
theorem Yq:bR Tryz.prog Tryz.f309 2 NR TS=true:=by kernel_rfl
def NS:bm:=
 ag [bq 2 (bZ [])] (ag [ap 3 (.alloc 302 [.ev (.pointer none),.aD])] (ag [bn 5 309 [e7,.c (.int .u8 34)]] (aK (ag [J 6 0,ap 7 (.mT ey),bq 8 (an 0)] (.block 0 (.loop (ag [aF 9 .lss dG dx] (aK (a1 9 .skip (.exit 0)) (aK (.block 1 (ag [J 10 8,J 4 10] (aK (ag [J 11 0,J 12 4,ap 13 (.ic dY dP),aF 14 .eql ek (.c (.int .u8 34)),J 15 14,dh 16 15 false 0,dh 17 15 false 4,bS 18 15 false (.ic fV fy),cv 19 15 false .eql fD (.c (.int .u8 92)),bN 20 en dA eW] (a1 20 (bV [bn 21 309 [e7,.c (.int .u8 92)]]) .skip)) (bV [J 22 0,J 23 4,ap 24 (.ic gl fI),bn 25 309 [e7,fu]])))) (bV [aF 26 .add dG (an 1),J 8 26]))))))) (ag [bn 27 309 [e7,.c (.int .u8 34)]] (a6 [bn 28 223 [e7],J 2 28])))))
def TU:List bc:=[.t 2]
theorem Ys:bR Tryz.prog Tryz.f311 1 NS TU=true:=by kernel_rfl
def DG:bm:=
 ag [ap 3 (.box 82 gR)] (ag [aE 5 0 3,aH 6 5] (.block 0 (ag [aF 49 .eql ey (an 1),J 48 49] (a1 48 (.region [J 50 0,aE 51 1 3,aH 52 51,aE 53 2 3,bD 54 6 53,gD 55 221 [mb],ap 56 (.da 9 1 4 [.str []] [(0,kX),(1,bZ [32,61,32]),(2,lg),(3,bZ [59])]),bn 57 216 [jH,mc]] true) (ag [aF 59 .eql ey (an 3),J 58 59] (a1 58 (aK (.region [J 60 0,aE 61 2 3,bD 62 6 61,gD 63 221 [pI],aE 64 8 3,aH 65 64,gD 66 217 [pJ],ap 67 (.da 9 1 5 [.str []] [(0,bZ [119,104,105,108,101,32]),(1,od),(2,bZ [32,116,105,109,101,115,32]),(3,oe),(4,bZ [32,123])]),bn 68 216 [nI,nK]] true) (ag [J 69 0,aE 70 9 3,aH 71 70,bn 72 220 [pK,nM]] (bV [J 73 0,ap 74 (.da 9 1 1 [.str []] [(0,bZ [125])]),bn 75 216 [pL,pM]]))) (ag [bq 4 (bZ [105,102,32])] (aK (.block 1 (.loop (.block 2 (ag [J 7 0,J 8 4,aE 9 2 3,bD 10 6 9,bn 11 221 [fU],ap 12 (.da 9 1 3 [.str []] [(0,dG),(1,dY),(2,bZ [32,123])]),bn 13 216 [dx,dP]] (ag [J 14 0,aE 15 9 3,aH 16 15,bn 17 220 [fx,fV]] (aK (ag [aE 18 10 3,aH 19 18,cm 20 19,aF 21 .neq ga (an 1),J 22 21,bG 23 22 false 10 3,bP 24 22 false 23,bS 25 22 false (.gy 11 fu (an 0)),bG 26 22 false 0 25,bP 27 22 false 26,cv 28 22 false .neq e6 (an 2),bN 29 gl dA gY] (a1 29 (.exit 1) .skip)) (bV [aE 30 10 3,aH 31 30,ct 32 11 hX (an 0),bD 33 11 32,cn 11 3 gK,bq 4 (bZ [125,32,101,108,115,101,32,105,102,32])]))))))) (aK (ag [aE 34 10 3,aH 35 34,cm 36 35,aF 37 .gtr gZ (an 0)] (a1 37 (ag [J 38 0,ap 39 (.da 9 1 1 [.str []] [(0,bZ [125,32,101,108,115,101,32,123])]),bn 40 216 [j9,jk]] (bV [J 41 0,aE 42 10 3,aH 43 42,bn 44 220 [iw,jG]])) .skip)) (bV [J 45 0,ap 46 (.da 9 1 1 [.str []] [(0,bZ [125])]),bn 47 216 [ka,kF]]))))))))))
def EY:List bc:=[]
theorem FT:bR Tryz.prog Tryz.f313 2 DG EY=true:=by kernel_rfl
def DH:bm:=
 ag [ap 2 (.box 80 eQ),bq 4 (bZ [])] (aK (ag [aE 5 0 2,aH 6 5,aF 7 .eql ey (an 6),J 8 7,bG 9 8 true 1 2,bP 10 8 true 9,fe 11 8 true 306 [fU],dh 12 8 true 1,cv 13 8 true .lss dY dP,bN 14 dG ek cP] (a1 14 (a6 [bD 15 6 2,bn 16 221 [en],aF 17 .add (bZ [40]) fV,aF 18 .add fy (bZ [41]),J 4 18]) .skip)) (a6 [bD 19 6 2,bn 20 221 [eW],J 4 20]))
def EZ:List bc:=[.t 4]
theorem FU:bR Tryz.prog Tryz.f314 2 DH EZ=true:=by kernel_rfl
def GJ:bm:=
 ag [bq 4 (an 0)] (aK (ag [J 6 0,cm 7 6,bq 8 (an 0)] (.block 0 (.loop (ag [aF 9 .lss dG dx] (aK (a1 9 .skip (.exit 0)) (aK (.block 1 (ag [J 10 8,J 5 10] (ag [J 11 1,J 12 0,J 13 5,ct 14 1 dP ek,aH 15 14,ap 16 (.gT dY [en])] (a1 16 (a6 [J 17 5,J 4 17]) .skip)))) (bV [aF 18 .add dG (an 1),J 8 18]))))))) (a6 [bq 4 (an (-1))]))
def Ja:List bc:=[.t 4]
theorem Ly:bR Tryz.prog Tryz.f356 2 GJ Ja=true:=by kernel_rfl
def N0:bm:=
 ag [bq 4 (an 0)] (aK (ag [J 6 0,cm 7 6,bq 8 (an 0)] (.block 0 (.loop (ag [aF 9 .lss dG dx] (aK (a1 9 .skip (.exit 0)) (aK (.block 1 (ag [J 10 8,J 5 10] (ag [J 11 1,J 12 0,J 13 5,ct 14 11 dP ek,bD 15 11 14,ap 16 (.gT dY [en])] (a1 16 (a6 [J 17 5,J 4 17]) .skip)))) (bV [aF 18 .add dG (an 1),J 8 18]))))))) (a6 [bq 4 (an (-1))]))
def T8:List bc:=[.t 4]
theorem YE:bR Tryz.prog Tryz.f358 2 N0 T8=true:=by kernel_rfl
def N1:bm:=
 ag [bq 4 (an 0)] (aK (ag [J 6 0,cm 7 6,bq 8 (an 0)] (.block 0 (.loop (ag [aF 9 .lss dG dx] (aK (a1 9 .skip (.exit 0)) (aK (.block 1 (ag [J 10 8,J 5 10] (ag [J 11 1,J 12 0,J 13 5,ct 14 6 dP ek,bD 15 6 14,ap 16 (.gT dY [en])] (a1 16 (a6 [J 17 5,J 4 17]) .skip)))) (bV [aF 18 .add dG (an 1),J 8 18]))))))) (a6 [bq 4 (an (-1))]))
def T9:List bc:=[.t 4]
theorem YF:bR Tryz.prog Tryz.f359 2 N1 T9=true:=by kernel_rfl
def Np:bm:=
 ag [bO 2] (a6 [J 3 0,aF 4 .leq (.c (.int .u8 48)) e7,J 5 4,dh 6 5 true 0,cv 7 5 true .leq ey (.c (.int .u8 57)),bN 8 dU dx cP,J 2 8])
def To:List bc:=[.t 2]
theorem XW:bR Tryz.prog Tryz.f242 1 Np To=true:=by kernel_rfl
def GG:bm:=
 (.seq
 (.region [ap 4 (.hO (.c (.bool false)))] false)
 (.seq
 (.region [ap 5 (.hO (.t 0)),ap 6 (.hO (.t 1)),ap 7 (.call 354 [(.t 5),(.t 6)]),ap 8 (.bin .geq (.t 7) (.c (.int .i64 0))),ap 4 (.hO (.t 8))] false)
 .ret))
def I7:List bc:=[.t 4]
theorem Lv:bR Tryz.prog Tryz.f293 2 GG I7=true:=by kernel_rfl
def GI:bm:=
 (.seq
 (.region [ap 4 (.hO (.c (.int .i64 0)))] false)
 (.seq
 (.region [ap 5 (.hO (.t 0)),ap 6 (.hO (.t 1)),ap 7 (.call 385 [(.t 5),(.t 6),(.c (.bool true))]),ap 4 (.hO (.t 7))] false)
 .ret))
def I9:List bc:=[.t 4]
theorem Lx:bR Tryz.prog Tryz.f354 2 GI I9=true:=by kernel_rfl
def NT:bm:=
 (.seq
 (.region [ap 2 (.hO (.c (.bool false)))] false)
 (.seq
 (.region [ap 3 (.hO (.t 0)),ap 4 (.bin .lss (.t 3) (.c (.int .i32 32))),ap 5 (.hO (.t 4)),bS 6 5 false (.hO (.t 0)),bS 7 5 false (.bin .gtr (.t 6) (.c (.int .i32 126))),ap 8 (.pick (.t 5) (.c (.bool true)) (.t 7)),ap 2 (.hO (.t 8))] false)
 .ret))
def TV:List bc:=[.t 2]
theorem Yt:bR Tryz.prog Tryz.f320 1 NT TV=true:=by kernel_rfl
def ks:bm:=
 ag [ap 2 (.box 48 eQ),ap 3 (.box 32 gR),ap 4 (.alloc 9 [.str []]),ap 5 (.alloc 41 [.int .i64 0])] (aK (ag [bD 13 6 2,bn 14 40 [ek],gV 15 14,J 16 15,bS 17 16 false (.load true 8 e7),fe 18 16 false 82 [fy],bS 19 16 false (.not fD),bN 20 fV dA eW] (a1 20 (a6 [cn 1 4 (bZ []),cn 1 5 (an 1)]) .skip)) (aK (.uG 21 83 [iv,dU]) (ag [aE 22 2 2,aH 23 22,aE 24 0 3,aH 25 24,aF 26 .eql fI gb,aE 27 2 2,aH 28 27,bn 29 84 [gX,gY,an 10]] (ag [bD 31 6 2,bD 32 8 3,bn 33 33 [hX,jc],J 30 33,ap 34 (.extract 0 jO),ap 35 (.extract 1 jO),J 6 34,J 7 35] (ag [J 36 7,aE 37 1 2,aH 38 37,bn 39 84 [gZ,j9,an 12]] (ag [bD 40 6 2,bD 41 8 3,J 42 6,ap 43 (.build [.str [],.str [],.str [],.aD,.aD,.aD,.str [],.aD,.aD,.int .i64 0,.int .i64 0,.int .i64 0,.aD,.aD,.int .i64 0,.ev (.map none)] [(0,6,jP),(6,8,iw),(14,1,lf)]),ap 44 (.box 186 jG),J 8 44] (ag [J 45 8,bn 46 85 [ka]] (aK (ag [aE 47 4 2,aH 48 47,cm 49 48,bq 50 (an 0)] (.block 0 (.loop (ag [aF 51 .lss jH mJ] (aK (a1 51 .skip (.exit 0)) (aK (.block 1 (ag [J 52 50,ct 53 4 nH jH,bD 54 4 53,ap 10 (.alloc 84 [.str [],.str [],.aD,.aD]),J 9 52,cn 4 10 mb] (.region [J 55 8,bD 56 4 10,aE 57 4 2,aH 58 57,J 59 9,ap 60 (.ii 4 kH none (some mK) none),ap 61 (.gN [] 86 [lg,mc,nI])] true))) (bV [aF 62 .add jH (an 1),J 50 62]))))))) (aK (ag [aE 63 5 2,aH 64 63,cm 65 64,bq 66 (an 0)] (.block 2 (.loop (ag [aF 67 .lss oe pJ] (aK (a1 67 .skip (.exit 2)) (aK (.block 3 (ag [ct 68 4 nJ oe,bD 69 4 68,ap 12 (.alloc 148 [.str [],.str [],.aD,.aD]),cn 4 12 pK] (bV [J 70 8,bD 71 4 12,bn 72 87 [nL,nM]]))) (bV [aF 73 .add oe (an 1),J 66 73]))))))) (a6 [cn 1 4 (bZ []),cn 1 5 (an 0)]))))))))))
def TT:List bc:=[.cell false 1 4,.cell false 1 5]
theorem Yr:bR Tryz.prog Tryz.f31 2 ks TT=true:=by kernel_rfl
def mv:bm:=
 ag [ap 2 (.box 48 eQ),ap 3 (.box 32 gR),bq 4 (an 0),bO 5] (ag [aE 7 1 3,aH 8 7,aE 9 1 2,aH 10 9,bn 11 93 [dG,fU],J 6 11] (a6 [J 12 6,ap 13 (.l1 true [dP,an 0]),J 14 6,aF 15 .geq fx (an 0),J 4 13,J 5 15]))
def TW:List bc:=[.t 4,.t 5]
theorem Yu:bR Tryz.prog Tryz.f33 2 mv TW=true:=by kernel_rfl
def xG:bm:=
 ag [ap 2 (.box 32 eQ),bq 4 (an 0)] (a6 [aE 5 1 2,aH 6 5,J 7 1,bn 8 93 [ey,dx],J 4 8])
def Uk:List bc:=[.t 4]
theorem YR:bR Tryz.prog Tryz.f59 2 xG Uk=true:=by kernel_rfl
def zn:bm:=
 ag [ap 2 (.box 32 eQ),ap 3 (.box 9 gR),bq 4 (an 0)] (a6 [aE 5 2 2,aH 6 5,ap 7 (.j6 140 [e7]),bn 8 139 [ey,dx],J 4 8])
def Ul:List bc:=[.t 4]
theorem FV:bR Tryz.prog Tryz.f60 2 zn Ul=true:=by kernel_rfl
def zp:bm:=
 ag [ap 1 (.box 32 eQ),bO 2] (a6 [bD 3 8 1,bn 4 154 [e7],J 5 4,bS 6 5 true (.load true 8 gR),fe 7 5 true 155 [ey],bN 8 dU dx cP,J 9 8,bG 10 9 true 2 1,bP 11 9 true 10,fe 12 9 true 156 [dY],bN 13 eC dP cP,J 14 13,bS 15 14 true (.load true 8 gR),fe 16 14 true 157 [en],bN 17 fx fV cP,J 18 17,bS 19 18 true (.load true 8 gR),fe 20 18 true 158 [eW],bN 21 fD ga cP,J 22 21,bS 23 22 true (.load true 8 gR),bG 24 22 true 4 1,bP 25 22 true 24,fe 26 22 true 160 [fI,gb,cP],fe 27 22 true 159 [gX,an (-1)],bS 28 22 true (.not e6),bN 29 gl gY cP,J 30 29,bS 31 30 true (.load true 8 gR),bG 32 30 true 5 1,bP 33 30 true 32,fe 34 30 true 160 [hX,gK,dA],fe 35 30 true 159 [iJ,an (-1)],bS 36 30 true (.not jj),bN 37 jO gZ cP,J 2 37])
def Uv:List bc:=[.t 2]
theorem Y1:bR Tryz.prog Tryz.f82 1 zp Uv=true:=by kernel_rfl
def GP:bm:=
 ag [J 6 0,gV 7 6] (a1 7 (bV [J 8 1,J 9 2,ap 10 (.build [.str [],.int .i64 0] [(0,1,dG),(1,1,eC)]),ap 11 (.qM 180 fU),sz (.panic dY)]) .skip)
def Jd:List bc:=[]
theorem LB:bR Tryz.prog Tryz.f84 3 GP Jd=true:=by kernel_rfl
def pZ:bm:=
 ag [J 5 0,ap 6 (.eB dU),aE 7 0 6,aE 8 3 7,aH 9 8,cm 10 9,bq 11 (an 0)] (.block 0 (.loop (ag [aF 12 .lss dY fU] (aK (a1 12 .skip (.exit 0)) (aK (.block 1 (ag [J 13 11,ct 14 7 eC dY,bD 15 7 14,ap 3 (.alloc 146 [.str [],.int .i64 0,.int .i64 0,.int .i64 0,.int .i64 0,.int .i64 0,.str []]),J 2 13,cn 7 3 en] (ag [ap 16 (.j6 161 [e7]),J 4 16] (aK (.region [J 17 0,ap 18 (.eB fy),aE 19 0 18,aE 20 3 19,aH 21 20,J 22 2,ap 23 (.ii 7 fW none (some gl) none),J 24 4,ap 25 (.gN [3] 162 [fI,fu]),gV 26 25,aE 27 0 3,ap 28 (.fP 3 false 1 e6),ap 29 (.gN [3] 84 [gX,gY,an 9])] true) (.region [aE 30 1 3,bD 31 3 30,gD 32 163 [hX],J 33 32,bG 34 33 true 1 3,bS 35 33 true (.load true 3 iJ),bG 36 33 true 4 3,bS 37 33 true (.load true 3 gZ),bS 38 33 true (.jF 149 [jj,iW]),bN 39 gK j9 cP,aE 40 0 3,ap 41 (.fP 3 false 1 jP),ap 42 (.gN [3] 84 [jk,iw,an 11])] true))))) (bV [aF 43 .add dY (an 1),J 11 43]))))))
def Uw:List bc:=[]
theorem Y2:bR Tryz.prog Tryz.f85 1 pZ Uw=true:=by kernel_rfl
def wj:bm:=
 ag [ap 4 (.box 84 gR)] (ag [J 14 0,aE 15 0 4,aH 16 15,aE 17 1 4,aH 18 17,bn 19 164 [fx,fV,fD,dA],ap 6 (.alloc 72 [.str [],.aD,.int .i64 0,.aD,.aD]),cn 5 6 eW] (ag [ap 20 (.j6 165 [iv]),J 7 20] (aK (.region [J 21 2,J 22 7,ap 23 (.gN [4] 96 [fW,gl]),gV 24 23,aE 25 0 4,ap 26 (.fP 4 false 1 gb),ap 27 (.gN [4] 84 [fu,gX,an 9])] true) (ag [aE 28 2 4,aH 29 28,cm 30 29,aE 31 1 6,aH 32 31,cm 33 32,aF 34 .eql jO gK,aE 35 0 4,aH 36 35,bn 37 84 [iJ,gZ,an 11]] (ag [J 38 0,ap 39 (.mkMap 184),ap 40 (.eB j9),aE 41 15 40,cn 1 41 jk] (aK (ag [aE 42 2 4,aH 43 42,cm 44 43,bq 45 (an 0)] (.block 0 (.loop (ag [aF 46 .lss ka jl] (aK (a1 46 .skip (.exit 0)) (aK (.block 1 (ag [J 47 45,ct 48 1 jG ka,aH 49 48,J 8 47,J 9 49] (ag [J 51 0,J 52 9,bn 53 166 [kG,kX],J 50 53,ap 54 (.extract 0 jH),ap 55 (.extract 1 jH),ap 10 (.alloc 146 [.str [],.int .i64 0,.int .i64 0,.int .i64 0,.int .i64 0,.int .i64 0,.str []]),cn 7 10 mb,J 11 55] (ag [J 57 0,ap 58 (.eB lM),aE 59 15 58,aH 60 59,J 61 9,ap 62 (.ji true (.int .i64 0) nI lh),J 56 62,ap 63 (.extract 0 mc),ap 64 (.extract 1 mc),J 12 63,J 13 64] (ag [J 65 11,gV 66 65,J 67 66,dh 68 67 true 13,bS 69 67 true (.not ud),bN 70 nK pK cP,J 71 9,bn 72 84 [nL,nM,an 9]] (.region [J 73 0,ap 74 (.eB pL),aE 75 15 74,aH 76 75,J 77 9,aE 78 1 6,aH 79 78,J 80 8,ct 81 4 xa xb,aE 82 1 81,aE 83 0 82,aH 84 83,sz (.oZ ue pN vG)] true)))))) (bV [aF 85 .add ka (an 1),J 45 85]))))))) (ag [J 86 0,aE 87 3 4,aH 88 87,bn 89 167 [vH,Am]] (bV [J 90 0,ap 91 (.eB An),aE 92 15 91,cn 1 92 (.c (.ev (.map none)))]))))))))
def Ux:List bc:=[]
theorem Y3:bR Tryz.prog Tryz.f86 3 wj Ux=true:=by kernel_rfl
def wk:bm:=
 ag [ap 3 (.box 148 gR)] (ag [J 9 0,aE 10 0 3,aH 11 10,aE 12 1 3,aH 13 12,bn 14 164 [eC,dY,ek,cP],ap 4 (.alloc 72 [.str [],.aD,.int .i64 0,.aD,.aD]),cn 5 4 fx] (ag [aE 15 2 3,aH 16 15,cm 17 16,aE 18 1 4,aH 19 18,cm 20 19,aF 21 .eql fy ga,aE 22 0 3,aH 23 22,bn 24 84 [fW,fI,an 11]] (aK (ag [aE 25 2 3,aH 26 25,cm 27 26,bq 28 (an 0)] (.block 0 (.loop (ag [aF 29 .lss gY e6] (aK (a1 29 .skip (.exit 0)) (aK (.block 1 (ag [J 30 28,ct 31 6 gX gY,bD 32 6 31,ap 6 (.alloc 80 [.int .i64 0,.str [],.str [],.str [],.int .i64 0,.aD]),J 5 30,cn 6 6 jc] (.region [J 33 0,ap 34 (.fP 6 true 6 ey),ap 35 (.gN [6,4,3] 168 [gK,iJ]),aE 36 1 4,ap 37 (.fP 4 false 1 gZ),J 38 5,ct 39 4 iW j9,aE 40 1 39,aE 41 0 40,ap 42 (.pA false 1 iw),aF 43 .eql jj lf,aE 44 0 3,ap 45 (.fP 3 false 1 jl),ap 46 (.gN [3] 84 [jG,ka,an 11])] true))) (bV [aF 47 .add gY (an 1),J 28 47]))))))) (ag [aE 48 3 3,aH 49 48,cm 50 49,bq 51 (an 0)] (.block 2 (.loop (ag [aF 52 .lss kG jH] (aK (a1 52 .skip (.exit 2)) (aK (.block 3 (ag [ct 53 6 mJ kG,bD 54 6 53,ap 8 (.alloc 80 [.int .i64 0,.str [],.str [],.str [],.int .i64 0,.aD]),cn 6 8 mb] (bV [J 55 0,bD 56 6 8,bn 57 168 [lg,mc],aF 58 .eql lM (an 1),bn 59 84 [kH,bZ [119,104,101,114,101],an 11]]))) (bV [aF 60 .add kG (an 1),J 51 60]))))))))))
def Uy:List bc:=[]
theorem Y4:bR Tryz.prog Tryz.f87 2 wk Uy=true:=by kernel_rfl
def MF:bm:=
 ag [ap 1 (.box 89 eQ),bO 2] (aK (ag [aE 3 0 1,aH 4 3] (.block 0 (ag [aF 6 .eql iv (an 1),J 5 6] (a1 5 (a6 [aE 7 1 1,aH 8 7,aF 9 .geq dG (an (-1000)),J 10 9,bG 11 10 true 1 1,bP 12 10 true 11,cv 13 10 true .leq dP (an 1000),bN 14 fU ek cP,J 15 14,bG 16 15 true 2 1,bP 17 15 true 16,cv 18 15 true .eql fy (bZ []),bN 19 en fD cP,J 2 19]) (ag [aF 21 .eql iv (an 2),J 20 21] (a1 20 (a6 [aE 22 1 1,aH 23 22,aF 24 .eql fI (an 0),J 25 24,bG 26 25 true 2 1,bP 27 25 true 26,bS 28 25 true (.mT e6),cv 29 25 true .leq gY (an 40),bN 30 gb hW cP,J 31 30,bG 32 31 true 2 1,bP 33 31 true 32,fe 34 31 true 228 [gK],bN 35 hX iJ cP,J 2 35]) .skip)))))) (a6 [bO 2]))
def SB:List bc:=[.t 2]
theorem Xa:bR Tryz.prog Tryz.f127 1 MF SB=true:=by kernel_rfl
def MG:bm:=
 ag [bq 4 (an 0)] (aK (ag [J 6 0,cm 7 6,bq 8 (an 0)] (.block 0 (.loop (ag [aF 9 .lss dG dx] (aK (a1 9 .skip (.exit 0)) (aK (.block 1 (ag [J 10 8,J 5 10] (ag [J 11 1,J 12 0,J 13 5,ct 14 5 dP ek,bD 15 5 14,ap 16 (.gT dY [en])] (a1 16 (a6 [J 17 5,J 4 17]) .skip)))) (bV [aF 18 .add dG (an 1),J 8 18]))))))) (a6 [bq 4 (an (-1))]))
def SC:List bc:=[.t 4]
theorem Xb:bR Tryz.prog Tryz.f139 2 MG SC=true:=by kernel_rfl
def MH:bm:=
 ag [ap 2 (.box 72 eQ),bO 3] (a6 [aE 4 0 2,aH 5 4,aH 6 1,aF 7 .eql dU ey,J 3 7])
def SD:List bc:=[.t 3]
theorem Xc:bR Tryz.prog Tryz.f140 1 MH SD=true:=by kernel_rfl
def MK:bm:=
 ag [ap 2 (.box 87 eQ),ap 3 (.box 89 gR),bO 4] (ag [bD 6 3 3,bn 7 257 [ey],J 5 7] (a6 [bD 8 3 2,bn 9 163 [dG],J 10 9,bS 11 10 true (.load true 3 e7),fe 12 10 true 127 [dY],bN 13 fU dP cP,J 14 13,bG 15 14 true 0 2,bP 16 14 true 15,bG 17 14 true 0 3,bP 18 14 true 17,cv 19 14 true .eql fV fD,bN 20 fx eW cP,J 21 20,dh 22 21 true 5,bG 23 21 true 1 2,bP 24 21 true 23,cv 25 21 true .geq gl fu,bN 26 fW gb cP,J 27 26,dh 28 27 true 5,bG 29 27 true 2 2,bP 30 27 true 29,cv 31 27 true .leq gY jO,bN 32 e6 hX cP,J 4 32]))
def SG:List bc:=[.t 4]
theorem Xf:bR Tryz.prog Tryz.f149 2 MK SG=true:=by kernel_rfl
def ML:bm:=
 ag [ap 1 (.box 32 eQ),bO 2] (aK (ag [aE 5 0 1,aH 6 5,bn 7 109 [ey],gV 8 7,J 9 8,bG 10 9 false 1 1,bP 11 9 false 10,bS 12 9 false (.len dY),cv 13 9 false .lss dP (an 1),bN 14 eC dA ek,J 15 14,bG 16 15 false 1 1,bP 17 15 false 16,bS 18 15 false (.len fy),cv 19 15 false .gtr fD (an 6),bN 20 en dA eW] (a1 20 (a6 [bO 2]) .skip)) (aK (ag [aE 21 1 1,aH 22 21,cm 23 22,bq 24 (an 0)] (.block 0 (.loop (ag [aF 25 .lss fu fI] (aK (a1 25 .skip (.exit 0)) (aK (.block 1 (ag [J 26 24,ct 27 1 gl fu,aH 28 27,J 3 26,J 4 28] (ag [J 29 4,bn 30 109 [hW],gV 31 30,J 32 31,bG 33 32 false 1 1,bP 34 32 false 33,dh 35 32 false 3,bS 36 32 false (.ii 1 iJ none (some jj) none),dh 37 32 false 4,fe 38 32 false 198 [gZ,iW],bN 39 jc dA j9] (a1 39 (a6 [bO 2]) .skip)))) (bV [aF 40 .add fu (an 1),J 24 40]))))))) (a6 [ir 2])))
def SH:List bc:=[.t 2]
theorem Xg:bR Tryz.prog Tryz.f154 1 ML SH=true:=by kernel_rfl
def MM:bm:=
 ag [ap 1 (.box 32 eQ),bO 2] (aK (ag [aE 6 3 1,aH 7 6,aF 8 .lss dx (an 1),J 9 8,bG 10 9 false 3 1,bP 11 9 false 10,cv 12 9 false .gtr dY (an 200),bN 13 eC dA dP,J 14 13,bG 15 14 false 4 1,bP 16 14 false 15,bG 17 14 false 5 1,bP 18 14 false 17,bS 19 14 false (.l1 false [fV,fD]),cv 20 14 false .lss eW (an 0),bN 21 fx dA ga,J 22 21,bG 23 22 false 4 1,bP 24 22 false 23,bG 25 22 false 5 1,bP 26 22 false 25,bS 27 22 false (.l1 true [fu,gX]),bG 28 22 false 3 1,bP 29 22 false 28,cv 30 22 false .geq e6 hW,bN 31 gl dA jO,J 32 31,bG 33 32 false 6 1,bP 34 32 false 33,bS 35 32 false (.len iJ),cv 36 32 false .gtr jj (an 400),bN 37 jc dA gZ] (a1 37 (a6 [bO 2]) .skip)) (aK (ag [aE 38 6 1,aH 39 38,cm 40 39,bq 41 (an 0)] (.block 0 (.loop (ag [aF 42 .lss iw jP] (aK (a1 42 .skip (.exit 0)) (aK (.block 1 (ag [ct 43 6 jk iw,bD 44 6 43,ap 4 (.alloc 76 [.int .i64 0,.int .i64 0,.int .i64 0,.int .i64 0,.int .i64 0,.bool false]),cn 6 4 jl] (ag [aE 45 1 4,bD 46 3 45,ap 5 (.alloc 74 [.int .i64 0,.int .i64 0,.int .i64 0]),cn 3 5 kF] (ag [aE 47 0 4,aH 48 47,aE 49 4 4,aH 50 49,aE 51 0 5,aH 52 51,aE 53 1 5,aH 54 53,aE 55 2 5,aH 56 55,ap 57 (.l1 false [nH,jH,kX,mb,mc]),aF 58 .lss lM (an 0),J 59 58,bG 60 59 false 0 4,bP 61 59 false 60,bG 62 59 false 4 4,bP 63 59 false 62,bS 64 59 false (.l1 true [lh,od]),bG 65 59 false 3 1,bP 66 59 false 65,cv 67 59 false .geq nJ oe,bN 68 mK dA nK,J 69 68,bG 70 69 false 0 5,bP 71 69 false 70,bG 72 69 false 1 5,bP 73 69 false 72,bS 74 69 false (.l1 true [nM,pL]),bG 75 69 false 1 1,bP 76 69 false 75,bS 77 69 false (.len ue),cv 78 69 false .geq pM pN,bN 79 pK dA yD,J 80 79,bG 81 80 false 0 5,bP 82 80 false 81,bG 83 80 false 1 5,bP 84 80 false 83,cv 85 80 false .eql Fg vG,bN 86 xb dA Al,J 87 86,bG 88 87 false 2 5,bP 89 87 false 88,bG 90 87 false 2 1,bP 91 87 false 90,bS 92 87 false (.len Ao),cv 93 87 false .geq yE xc,bN 94 CK dA CL] (a1 94 (a6 [bO 2]) .skip))))) (bV [aF 95 .add iw (an 1),J 41 95]))))))) (a6 [ir 2])))
def SI:List bc:=[.t 2]
theorem Xh:bR Tryz.prog Tryz.f155 1 MM SI=true:=by kernel_rfl
def MN:bm:=
 ag [bO 2] (aK (ag [J 5 0,cm 6 5,aF 7 .eql ey (an 0)] (a1 7 (a6 [ir 2]) .skip)) (ag [J 9 0,bn 10 258 [eC,an 0],J 8 10,ap 11 (.extract 0 dG),ap 12 (.extract 1 dG),J 3 11,J 4 12] (a6 [J 13 4,aF 14 .eql ek (an 0),J 2 14])))
def SJ:List bc:=[.t 2]
theorem Xi:bR Tryz.prog Tryz.f156 1 MN SJ=true:=by kernel_rfl
def MO:bm:=
 ag [ap 1 (.box 32 eQ),bO 2] (aK (ag [aE 7 6 1,aH 8 7,cm 9 8,bq 10 (an 0)] (.block 0 (.loop (ag [aF 11 .lss fU eC] (aK (a1 11 .skip (.exit 0)) (aK (.block 1 (ag [J 12 10,ct 13 6 dG fU,bD 14 6 13,ap 4 (.alloc 76 [.int .i64 0,.int .i64 0,.int .i64 0,.int .i64 0,.int .i64 0,.bool false]),J 3 12,cn 6 4 fx] (aK (ag [aE 15 0 4,aH 16 15,aE 17 5 1,aH 18 17,aF 19 .eql fV fD,J 20 19,bG 21 20 false 5 4,bP 22 20 false 21,dh 23 20 false 22,bG 24 23 true 0 4,bP 25 23 true 24,bG 26 23 true 4 1,bP 27 23 true 26,cv 28 23 true .eql gb e6,bS 29 20 false (.pick fI gY cP),bN 30 ga dA hW] (a1 30 (a6 [bO 2]) .skip)) (ag [aE 31 6 1,aH 32 31,cm 33 32,bq 34 (an 0)] (.block 2 (.loop (ag [aF 35 .lss iJ gK] (aK (a1 35 .skip (.exit 2)) (aK (.block 3 (ag [J 36 34,ct 37 6 jc iJ,bD 38 6 37,ap 6 (.alloc 76 [.int .i64 0,.int .i64 0,.int .i64 0,.int .i64 0,.int .i64 0,.bool false]),J 5 36,cn 6 6 j9] (aK (ag [J 39 3,J 40 5,aF 41 .neq jk jP,J 42 41,bG 43 42 true 0 4,bP 44 42 true 43,bG 45 42 true 0 6,bP 46 42 true 45,cv 47 42 true .eql jl kF,bN 48 lf ma cP,J 49 48,bG 50 49 true 1 4,bS 51 49 true (.load true 3 jH),bG 52 49 true 1 6,bS 53 49 true (.load true 3 kX),bS 54 49 true (.j1 false 74 [.i .i64,.i .i64,.i .i64] kG na),dh 55 49 true 54,bG 56 55 false 1 4,bG 57 55 false 0 56,bP 58 55 false 57,bG 59 55 false 1 6,bG 60 55 false 0 59,bP 61 55 false 60,cv 62 55 false .neq kH lh,bS 63 49 true (.pick lg dA pI),dh 64 49 true 63,bG 65 64 false 5 4,bP 66 64 false 65,bS 67 49 true (.pick nJ dA oe),bN 68 mJ nK cP] (a1 68 (a6 [bO 2]) .skip)) (ag [aE 69 5 4,aH 70 69,J 71 70,bG 72 71 true 4 6,bP 73 71 true 72,bG 74 71 true 0 4,bP 75 71 true 74,cv 76 71 true .eql pL qo,bN 77 nM ue cP,J 78 77,bG 79 78 true 1 4,bG 80 78 true 0 79,bP 81 78 true 80,bG 82 78 true 1 6,bG 83 78 true 0 82,bP 84 78 true 83,cv 85 78 true .neq s5 vG,dh 86 78 true 85,bG 87 86 false 1 4,bG 88 86 false 2 87,bP 89 86 false 88,bG 90 86 false 1 6,bG 91 86 false 2 90,bP 92 86 false 91,cv 93 86 false .neq yE xc,bS 94 78 true (.pick vH dA CL),bN 95 yD CM cP] (a1 95 (a6 [bO 2]) .skip))))) (bV [aF 96 .add iJ (an 1),J 34 96])))))))))) (bV [aF 97 .add fU (an 1),J 10 97]))))))) (a6 [ir 2]))
def SK:List bc:=[.t 2]
theorem Xj:bR Tryz.prog Tryz.f157 1 MO SK=true:=by kernel_rfl
def MP:bm:=
 ag [ap 1 (.box 32 eQ),bO 2] (ag [bq 3 (an (-1))] (aK (ag [aE 6 7 1,aH 7 6,cm 8 7,bq 9 (an 0)] (.block 0 (.loop (ag [aF 10 .lss eC dG] (aK (a1 10 .skip (.exit 0)) (aK (.block 1 (ag [ct 11 3 dx eC,bD 12 3 11,ap 5 (.alloc 342 [.int .i64 0,.int .i64 0,.int .i64 0]),cn 3 5 dP] (aK (aK (.region [aE 13 0 5,aH 14 13,J 15 3,aF 16 .leq fx en,J 17 16,bG 18 17 false 1 5,bP 19 17 false 18,cv 20 17 false .lss eW (an 1),bN 21 fy dA ga,J 22 21,bG 23 22 false 1 5,bP 24 22 false 23,cv 25 22 false .gtr fu (an 1000),bN 26 gl dA gb,J 27 26,bG 28 27 false 2 5,bP 29 27 false 28,cv 30 27 false .lss hW (an 0),bN 31 e6 dA jO,J 32 31,bG 33 32 false 2 5,bP 34 32 false 33,bG 35 32 false 6 1,bP 36 32 false 35,bS 37 32 false (.len gZ),cv 38 32 false .geq iJ iW,bN 39 jc dA j9,J 40 39,bG 41 40 false 6 1,bP 42 40 false 41,bG 43 40 false 2 5,bP 44 40 false 43,bS 45 40 false (.gy 6 lf jl),bG 46 40 false 0 45,bP 47 40 false 46,bG 48 40 false 0 5,bP 49 40 false 48,cv 50 40 false .neq ma mJ,bN 51 jP dA jH,J 52 51,bG 53 52 false 6 1,bP 54 52 false 53,bG 55 52 false 2 5,bP 56 52 false 55,bS 57 52 false (.gy 6 mb mc),bG 58 52 false 5 57,bP 59 52 false 58,bN 60 kX dA mK] true) (a1 60 (a6 [bO 2]) .skip)) (bV [aE 61 0 5,aH 62 61,J 3 62])))) (bV [aF 63 .add eC (an 1),J 9 63]))))))) (a6 [ir 2])))
def SL:List bc:=[.t 2]
theorem Xk:bR Tryz.prog Tryz.f158 1 MP SL=true:=by kernel_rfl
def MQ:bm:=
 ag [bO 4] (a6 [J 5 0,J 6 1,bn 7 259 [dU,ey],aF 8 .geq dx (an 0),J 4 8])
def SM:List bc:=[.t 4]
theorem Xl:bR Tryz.prog Tryz.f159 2 MQ SM=true:=by kernel_rfl
def MR:bm:=
 ag [ap 3 (.box 32 eQ),bq 6 (.c .aD)] (ag [ap 13 (.da 3 1 1 [.int .i64 0] [(0,an (-1))]),aE 14 3 3,aH 15 14,bn 16 260 [ek,en],J 7 16] (ag [J 17 7,J 18 1,ap 19 (.jr 1 fy fD),cn 1 19 (an 0)] (aK (ag [J 20 1,ap 21 (.nU 3 1 1 [.int .i64 0] [(0,ga)]),J 8 21] (.block 0 (.loop (aK (ag [J 22 8,ap 23 (.iq gl),aF 24 .gtr fI (an 0)] (a1 24 .skip (.exit 0))) (aK (.block 1 (ag [aE 27 6 3,aH 28 27,cm 29 28,bq 30 (an 0)] (.block 2 (.loop (ag [aF 31 .lss jO hW] (aK (a1 31 .skip (.exit 2)) (aK (.block 3 (ag [ct 32 6 gY jO,bD 33 6 32,ap 10 (.alloc 76 [.int .i64 0,.int .i64 0,.int .i64 0,.int .i64 0,.int .i64 0,.bool false]),cn 6 10 gK] (aK (.region [aE 34 0 10,aH 35 34,aE 36 4 10,aH 37 36,J 11 35,J 12 37] true) (aK (ag [J 38 2] (a1 38 (bV [J 39 12,J 40 11,J 11 39,J 12 40]) .skip)) (ag [J 41 11,J 42 8,ap 43 (.jr 1 lf (an 0)),ap 44 (.j5 false 1 jG),aF 45 .eql iw jl,J 46 45,dh 47 46 true 7,dh 48 46 true 12,bS 49 46 true (.jr 1 ma nH),bS 50 46 true (.j5 false 1 mJ),cv 51 46 true .lss jH (an 0),bN 52 kF kG cP] (a1 52 (ag [J 53 7,J 54 12,J 55 7,J 56 11,ap 57 (.jr 1 lg mc),ap 58 (.j5 false 1 lM),aF 59 .add kH (an 1),ap 60 (.jr 1 na mb),cn 1 60 mK] (bV [J 61 8,J 62 12,ap 63 (.da 3 1 1 [.int .i64 0] [(0,pI)]),ap 64 (.nj 3 1 8 lh od),J 8 64])) .skip)))))) (bV [aF 65 .add jO (an 1),J 30 65])))))))) (bV [J 25 8,ap 26 (.oI 1 gb (some (an 1)) none),J 8 26])))))) (a6 [J 66 7,J 6 66]))))
def SN:List bc:=[.t 6]
theorem Xm:bR Tryz.prog Tryz.f160 3 MR SN=true:=by kernel_rfl
def MS:bm:=
 ag [ap 2 (.box 146 eQ),bO 3] (a6 [aE 4 0 2,aH 5 4,aE 6 0 1,aH 7 6,aF 8 .eql dU dx,J 3 8])
def SO:List bc:=[.t 3]
theorem Xn:bR Tryz.prog Tryz.f161 1 MS SO=true:=by kernel_rfl
def MT:bm:=
 ag [ap 1 (.box 87 eQ),bO 2] (ag [bq 3 (an 0),bq 4 (an 0)] (aK (ag [aE 5 0 1,aH 6 5] (.block 0 (ag [aF 8 .eql ey (an 1),J 7 8] (a1 7 (bV [bq 3 (an (-1000)),bq 4 (an 1000)]) (ag [aF 10 .eql ey (an 2),J 9 10] (a1 9 (bV [bq 3 (an 0),bq 4 (an 40)]) (a6 [bO 2]))))))) (a6 [J 11 3,aE 12 1 1,aH 13 12,aF 14 .leq dY ek,J 15 14,bG 16 15 true 1 1,bP 17 15 true 16,bG 18 15 true 2 1,bP 19 15 true 18,cv 20 15 true .leq fy eW,bN 21 en ga cP,J 22 21,bG 23 22 true 2 1,bP 24 22 true 23,dh 25 22 true 4,cv 26 22 true .leq fu gb,bN 27 gl gX cP,J 2 27])))
def SP:List bc:=[.t 2]
theorem Xo:bR Tryz.prog Tryz.f163 1 MT SP=true:=by kernel_rfl
def MU:bm:=
 ag [ap 8 (.alloc 72 [.str [],.aD,.int .i64 0,.aD,.aD])] (ag [J 12 0,J 13 1,bn 14 262 [dP,ek],J 9 14] (ag [J 15 9,aF 16 .geq en (an 0),J 17 1,bn 18 84 [fV,fy,an 10]] (ag [J 19 0,ap 20 (.eB eW),aE 21 6 20,aE 22 1 21,aH 23 22,J 24 2,bn 25 93 [fI,fu],J 10 25] (ag [J 26 10,aF 27 .geq gX (an 0),J 28 2,bn 29 84 [e6,gY,an 12]] (ag [J 30 0,ap 31 (.eB jO),aE 32 14 31,aH 33 32,J 34 10,J 35 9,ap 36 (.build [.int .i64 0,.int .i64 0,.int .i64 0] [(0,1,gK),(1,1,iJ),(2,1,jj)]),ap 11 (.alloc 74 [.int .i64 0,.int .i64 0,.int .i64 0]),cn 3 11 gZ] (aK (ag [J 37 3] (a1 37 (.region [J 38 10,J 39 0,ap 40 (.eB jk),aE 41 14 40,ap 42 (.fP 0 false 1 iw),aE 43 0 11,sz (.hP 11 [0] 1 jG j9),aE 44 1 11,sz (.hP 11 [0] 1 jl lf)] true) .skip)) (ag [J 45 0,ap 46 (.eB ka),aE 47 6 46,aE 48 6 47,aH 49 48,ap 50 (.j6 264 [dY]),bn 51 263 [mJ,jH],J 52 1,bn 53 84 [kG,kX,an 8]] (a6 [J 54 0,ap 55 (.eB mb),aE 56 6 55,aE 57 2 56,aH 58 57,J 59 9,ct 60 5 kH mK,bD 61 5 60,cn 5 8 lh]))))))))
def SQ:List bc:=[.cell true 5 8]
theorem Xp:bR Tryz.prog Tryz.f164 4 MU SQ=true:=by kernel_rfl
def MV:bm:=
 ag [ap 2 (.box 84 eQ),bO 3] (a6 [aE 4 0 2,aH 5 4,aE 6 0 1,aH 7 6,aF 8 .eql dU dx,J 9 8,bG 10 9 true 1 2,bP 11 9 true 10,bG 12 9 true 1 1,bP 13 9 true 12,cv 14 9 true .eql dY ek,bN 15 eC fx cP,J 3 15])
def SR:List bc:=[.t 3]
theorem Xq:bR Tryz.prog Tryz.f165 1 MV SR=true:=by kernel_rfl
def Gz:bm:=
 ag [ap 3 (.box 9 gR),ap 4 (.alloc 146 [.str [],.int .i64 0,.int .i64 0,.int .i64 0,.int .i64 0,.int .i64 0,.str []]),bO 5] (ag [J 7 0,ap 8 (.eB dx),aE 9 0 8,aE 10 3 9,aH 11 10,ap 12 (.j6 265 [e7]),bn 13 261 [dY,dP],J 6 13] (aK (ag [J 14 6,aF 15 .lss fx (an 0)] (a1 15 (a6 [ap 16 (.build [.str [],.int .i64 0,.int .i64 0,.int .i64 0,.int .i64 0,.int .i64 0,.str []] []),cn 7 4 fV,bO 5]) .skip)) (a6 [J 17 0,ap 18 (.eB fy),aE 19 0 18,aE 20 3 19,aH 21 20,J 22 6,ct 23 7 fW gl,bD 24 7 23,cn 7 4 fu,ir 5])))
def I3:List bc:=[.cell true 7 4,.t 5]
theorem Lr:bR Tryz.prog Tryz.f166 2 Gz I3=true:=by kernel_rfl
def A1:bm:=
 ag [J 6 1,cm 7 6,bq 8 (an 0)] (.block 0 (.loop (ag [aF 9 .lss dG dx] (aK (a1 9 .skip (.exit 0)) (aK (.block 1 (ag [ct 10 11 ey dG,bD 11 11 10,ap 5 (.alloc 82 [.int .i64 0,.str [],.int .i64 0,.str [],.str [],.str [],.int .i64 0,.aD,.int .i64 0,.aD,.aD]),cn 11 5 dY] (aK (ag [aE 12 0 5,aH 13 12] (.block 2 (ag [aF 15 .eql ek (an 1),J 14 15] (a1 14 (ag [J 16 0,bD 17 11 5,bn 18 266 [fV,fy]] (.exit 1)) (ag [aF 20 .eql ek (an 2),J 19 20] (a1 19 (bV [J 21 0,aE 22 2 5,bD 23 6 22,bn 24 168 [fW,fI],aF 25 .eql fu (an 1),bn 26 84 [gb,bZ [105,102],an 11]]) (ag [aF 28 .eql ek (an 3),J 27 28] (a1 27 (bV [J 29 0,aE 30 2 5,bD 31 6 30,bn 32 168 [hW,hX],aF 33 .eql jc (an 1),bn 34 84 [gK,bZ [119,104,105,108,101],an 11]]) .skip)))))))) (ag [J 35 0,aE 36 9 5,aH 37 36,bn 38 167 [jj,iW]] (bV [J 39 0,aE 40 10 5,aH 41 40,bn 42 167 [jk,iw]]))))) (bV [aF 43 .add dG (an 1),J 8 43]))))))
def Cu:List bc:=[]
theorem Dp:bR Tryz.prog Tryz.f167 2 A1 Cu=true:=by kernel_rfl
def GA:bm:=
 ag [ap 3 (.box 80 gR),bq 4 (an 0)] (ag [ap 5 (.alloc 60 [.aD])] (aK (ag [aE 9 5 3,aH 10 9,cm 11 10,bq 12 (an 0)] (.block 0 (.loop (ag [aF 13 .lss dP dY] (aK (a1 13 .skip (.exit 0)) (aK (.block 1 (ag [ct 14 6 fU dP,bD 15 6 14,ap 7 (.alloc 80 [.int .i64 0,.str [],.str [],.str [],.int .i64 0,.aD]),cn 6 7 en] (.region [ap 16 (.fP 5 false 1 dU),J 17 0,ap 18 (.fP 7 true 6 dx),ap 19 (.gN [5,7] 168 [fy,fD]),ap 20 (.da 3 1 1 [.int .i64 0] [(0,eW)]),ap 21 (.append 3 1 8 fV ga),cn 1 5 fW] true))) (bV [aF 22 .add dP (an 1),J 12 22]))))))) (ag [ap 23 (.j6 267 [dU]),J 8 23] (aK (ag [aE 24 0 3,aH 25 24] (.block 2 (ag [aF 27 .eql gb (an 2),J 26 27] (a1 26 (a6 [bq 4 (an 2)]) (ag [aF 29 .eql gb (an 3),J 28 29] (a1 28 (a6 [J 30 0,aE 31 2 3,aH 32 31,bn 33 270 [jO,jc],J 4 33]) (ag [aF 35 .eql gb (an 4),J 34 35] (a1 34 (bV [J 36 8,ap 37 (.gT gZ [an 2]),bn 38 84 [iW,bZ [108,101,110],an 11]]) (ag [aF 40 .eql gb (an 5),J 39 40] (a1 39 (.region [J 41 8,ap 42 (.mo [3] iw [an 1]),aE 43 1 3,ap 44 (.fP 3 false 1 jG),ap 45 (.gN [3] 84 [lf,jl,an 11])] true) (ag [aF 47 .eql gb (an 6),J 46 47] (a1 46 (aK (ag [aE 48 1 3,aH 49 48,aF 50 .neq mJ (bZ [43]),J 51 50,bG 52 51 true 1 3,bP 53 51 true 52,cv 54 51 true .neq na (bZ [61,61]),bN 55 kG mb cP,J 56 55,bG 57 56 true 1 3,bP 58 56 true 57,cv 59 56 true .neq kH (bZ [33,61]),bN 60 mc mK cP] (a1 60 (aK (.region [J 61 8,ap 62 (.mo [3] lh [an 1]),aE 63 1 3,ap 64 (.fP 3 false 1 od),ap 65 (.gN [3] 84 [pI,nJ,an 11])] true) (.exit 2)) .skip)) (aK (.region [J 66 8,ap 67 (.fP 5 false 1 dU),ct 68 1 nK (an 0),aH 69 68,ap 70 (.mo [3] oe [pK]),aE 71 1 3,ap 72 (.fP 3 false 1 nM),ap 73 (.gN [3] 84 [nL,s4,an 11])] true) (ag [aE 74 1 3,aH 75 74,aF 76 .eql qo (bZ [43])] (a1 76 (a6 [ap 77 (.fP 5 false 1 dU),ct 78 1 pN (an 0),aH 79 78,J 4 79]) .skip)))) .skip)))))))))))) (a6 [bq 4 (an 1)])))))
def I4:List bc:=[.t 4]
theorem Ls:bR Tryz.prog Tryz.f168 2 GA I4=true:=by kernel_rfl
def No:bm:=
 ag [bO 2] (a6 [J 3 0,bn 4 293 [e7,.c (.fn 320 [])],gV 5 4,J 2 5])
def Tm:List bc:=[.t 2]
theorem XU:bR Tryz.prog Tryz.f228 1 No Tm=true:=by kernel_rfl
def Ns:bm:=
 ag [ap 1 (.box 89 eQ),bq 2 (an 0)] (aK (ag [aE 3 0 1,aH 4 3] (.block 0 (ag [aF 6 .eql iv (an 1),J 5 6] (a1 5 (a6 [aE 7 1 1,aH 8 7,J 2 8]) (ag [aF 10 .eql iv (an 2),J 9 10] (a1 9 (a6 [aE 11 2 1,aH 12 11,ap 13 (.mT dP),J 2 13]) .skip)))))) (a6 [bq 2 (an 0)]))
def Tt:List bc:=[.t 2]
theorem X1:bR Tryz.prog Tryz.f257 1 Ns Tt=true:=by kernel_rfl
def Nt:bm:=
 ag [bq 4 (.c .aD),bq 5 (an 0)] (aK (ag [J 6 1,aF 7 .lss ey (an 0),J 8 7,dh 9 8 false 1,dh 10 8 false 0,bS 11 8 false (.len fU),cv 12 8 false .geq eC dY,bN 13 dG dA dP,J 14 13,dh 15 14 false 0,fe 16 14 false 338 [en],bS 17 14 false (.not fV),bN 18 fx dA fy] (a1 18 (a6 [bq 4 (.c .aD),bq 5 (an 1)]) .skip)) (a6 [J 19 0,J 20 1,ct 21 5 eW ga,bD 22 5 21,bn 23 339 [gl],J 4 23,bq 5 (an 0)]))
def Tu:List bc:=[.t 4,.t 5]
theorem X2:bR Tryz.prog Tryz.f258 2 Nt Tu=true:=by kernel_rfl
def Nu:bm:=
 ag [bq 4 (an 0)] (aK (ag [J 6 0,cm 7 6,bq 8 (an 0)] (.block 0 (.loop (ag [aF 9 .lss dG dx] (aK (a1 9 .skip (.exit 0)) (aK (.block 1 (ag [J 10 8,J 5 10] (ag [J 11 1,J 12 0,J 13 5,ct 14 1 dP ek,aH 15 14,aF 16 .eql dY en] (a1 16 (a6 [J 17 5,J 4 17]) .skip)))) (bV [aF 18 .add dG (an 1),J 8 18]))))))) (a6 [bq 4 (an (-1))]))
def Tv:List bc:=[.t 4]
theorem X3:bR Tryz.prog Tryz.f259 2 Nu Tv=true:=by kernel_rfl
def Nv:bm:=
 ag [ap 3 (.box 9 gR),bq 4 (an 0)] (a6 [J 5 0,ap 6 (.eB dU),aE 7 6 6,aE 8 2 7,aH 9 8,ap 10 (.j6 341 [e7]),bn 11 139 [eC,fU],J 4 11])
def Tw:List bc:=[.t 4]
theorem X4:bR Tryz.prog Tryz.f262 2 Nv Tw=true:=by kernel_rfl
def Nw:bm:=
 ag [bO 4] (a6 [J 5 0,J 6 1,bn 7 342 [dU,ey],aF 8 .geq dx (an 0),J 4 8])
def Tx:List bc:=[.t 4]
theorem X5:bR Tryz.prog Tryz.f263 2 Nw Tx=true:=by kernel_rfl
def Nx:bm:=
 ag [ap 2 (.box 76 eQ),bO 3] (a6 [aE 4 1 2,bD 5 3 4,bD 6 3 1,ap 7 (.j1 false 74 [.i .i64,.i .i64,.i .i64] dU ey),J 3 7])
def Ty:List bc:=[.t 3]
theorem X6:bR Tryz.prog Tryz.f264 1 Nx Ty=true:=by kernel_rfl
def Ny:bm:=
 ag [ap 2 (.box 146 eQ),bO 3] (a6 [aE 4 0 2,aH 5 4,aH 6 1,aF 7 .eql dU ey,J 3 7])
def Tz:List bc:=[.t 3]
theorem X7:bR Tryz.prog Tryz.f265 1 Ny Tz=true:=by kernel_rfl
def DF:bm:=
 ag [ap 3 (.box 82 gR)] (aK (.region [J 9 0,ap 10 (.eB eC),aE 11 15 10,aH 12 11,aE 13 1 3,aH 14 13,ap 15 (.ji true (.int .i64 0) dP fx),J 8 15,ap 16 (.extract 0 dG),ap 17 (.extract 1 dG),J 4 16,J 5 17] true) (ag [J 19 0,aE 20 1 3,aH 21 20,bn 22 166 [eW,fW],J 18 22,ap 23 (.extract 0 fD),ap 24 (.extract 1 fD),ap 6 (.alloc 146 [.str [],.int .i64 0,.int .i64 0,.int .i64 0,.int .i64 0,.int .i64 0,.str []]),cn 7 6 fI,J 7 24] (ag [J 25 5,J 26 25,dh 27 26 false 7,bN 28 gX dA e6,aE 29 1 3,aH 30 29,bn 31 84 [gY,jO,an 10]] (ag [J 32 5,gV 33 32,aE 34 1 3,aH 35 34,bn 36 84 [gK,jj,an 11]] (.region [J 37 0,aE 38 2 3,ap 39 (.fP 3 true 6 j9),ap 40 (.gN [3,6] 168 [iW,jk]),aE 41 1 6,aE 42 0 41,ap 43 (.fP 6 false 1 lf),aF 44 .eql jP jG,aE 45 1 3,ap 46 (.fP 3 false 1 ka),ap 47 (.gN [3] 84 [jl,kF,an 11])] true)))))
def EW:List bc:=[]
theorem FQ:bR Tryz.prog Tryz.f266 2 DF EW=true:=by kernel_rfl
def Nz:bm:=
 ag [ap 2 (.box 3 eQ),bO 3] (a6 [aH 4 1,ap 5 (.j6 269 [VC]),bn 6 268 [iv,dU],gV 7 6,J 3 7])
def TA:List bc:=[.t 3]
theorem X8:bR Tryz.prog Tryz.f267 1 Nz TA=true:=by kernel_rfl
def NA:bm:=
 ag [bO 4] (a6 [J 5 0,J 6 1,bn 7 343 [dU,ey],aF 8 .geq dx (an 0),J 4 8])
def TB:List bc:=[.t 4]
theorem X9:bR Tryz.prog Tryz.f268 2 NA TB=true:=by kernel_rfl
def NB:bm:=
 ag [bO 3] (a6 [J 4 0,aH 5 1,aF 6 .neq iv dU,J 3 6])
def TC:List bc:=[.t 3]
theorem Ya:bR Tryz.prog Tryz.f269 1 NB TC=true:=by kernel_rfl
def tC:bm:=
 ag [bq 4 (an 0)] (aK (ag [J 10 0,ap 11 (.eB fU),aE 12 15 11,aH 13 12,J 14 1,ap 15 (.ji true (.int .i64 0) ek fx),J 9 15,ap 16 (.extract 0 eC),ap 17 (.extract 1 eC),J 5 16,J 6 17] (ag [J 18 6] (a1 18 (a6 [J 19 5,J 4 19]) .skip))) (ag [J 21 0,J 22 1,bn 23 166 [fW,gl],J 20 23,ap 24 (.extract 0 ga),ap 25 (.extract 1 ga),ap 7 (.alloc 146 [.str [],.int .i64 0,.int .i64 0,.int .i64 0,.int .i64 0,.int .i64 0,.str []]),cn 7 7 fu,J 8 25] (ag [J 26 8,J 27 1,bn 28 84 [gX,e6,an 10]] (a6 [aE 29 1 7,aE 30 0 29,aH 31 30,J 4 31]))))
def EX:List bc:=[.t 4]
theorem FR:bR Tryz.prog Tryz.f270 2 tC EX=true:=by kernel_rfl
def NV:bm:=
 ag [bO 2] (aK (ag [J 9 0,cm 10 9,aF 11 .gtr fU (an 40)] (a1 11 (a6 [bO 2]) .skip)) (ag [J 12 0,bn 13 374 [dP],J 3 13] (aK (ag [J 14 3,cm 15 14,aF 16 .gtr en (an 24)] (a1 16 (a6 [bO 2]) .skip)) (ag [bq 4 (an 0)] (aK (ag [J 17 0,cm 18 17,bq 19 (an 0)] (.block 0 (.loop (ag [aF 20 .lss eW fD] (aK (a1 20 .skip (.exit 0)) (aK (.block 1 (ag [J 21 19,ct 22 5 fy eW,bD 23 5 22,ap 6 (.alloc 72 [.str [],.aD,.int .i64 0,.aD,.aD]),J 5 21,cn 5 6 fI] (aK (ag [aE 24 0 6,aH 25 24,bn 26 205 [gb],gV 27 26,J 28 27,bG 29 28 false 1 6,bP 30 28 false 29,bS 31 28 false (.len jO),cv 32 28 false .gtr hX (an 4),bN 33 gY dA jc,J 34 33,bG 35 34 false 2 6,bP 36 34 false 35,dh 37 34 false 4,cv 38 34 false .neq gZ iW,bN 39 iJ dA j9,J 40 39,dh 41 40 false 0,dh 42 40 false 5,bS 43 40 false (.ii 5 iw none (some lf) none),bS 44 40 false (.j6 376 [ey]),fe 45 40 false 375 [jG,jl],bN 46 jP dA ka] (a1 46 (a6 [bO 2]) .skip)) (ag [J 47 4,aE 48 1 6,aH 49 48,cm 50 49,aF 51 .add ma jH,J 4 51] (aK (ag [aE 52 1 6,aH 53 52,cm 54 53,bq 55 (an 0)] (.block 2 (.loop (ag [aF 56 .lss lg mb] (aK (a1 56 .skip (.exit 2)) (aK (.block 3 (ag [J 57 55,ct 58 4 na lg,bD 59 4 58,ap 8 (.alloc 131 [.str [],.int .i64 0,.int .i64 0,.int .i64 0]),J 7 57,cn 4 8 mK] (ag [aE 60 0 8,aH 61 60,bn 62 109 [lh],gV 63 62,J 64 63,bG 65 64 false 1 8,bS 66 64 false (.load true 3 pJ),fe 67 64 false 377 [oe],bS 68 64 false (.not nK),bN 69 nJ dA ud,J 70 69,bG 71 70 false 1 6,bP 72 70 false 71,dh 73 70 false 7,bS 74 70 false (.ii 4 s4 none (some pL) none),bS 75 70 false (.j6 379 [dG]),fe 76 70 false 378 [pM,qo],bN 77 nL dA ue] (a1 77 (a6 [bO 2]) .skip)))) (bV [aF 78 .add lg (an 1),J 55 78]))))))) (ag [aE 79 3 6,bD 80 2 79,J 81 3,bn 82 380 [xb,s5],gV 83 82] (a1 83 (a6 [bO 2]) .skip))))))) (bV [aF 84 .add eW (an 1),J 19 84]))))))) (a6 [ir 2]))))))
def T0:List bc:=[.t 2]
theorem Yy:bR Tryz.prog Tryz.f338 1 NV T0=true:=by kernel_rfl
def NW:bm:=
 ag [ap 1 (.box 72 eQ),bq 2 (.c .aD)] (ag [bq 3 (.c .aD)] (aK (ag [aE 8 1 1,aH 9 8,cm 10 9,bq 11 (an 0)] (.block 0 (.loop (ag [aF 12 .lss dY fU] (aK (a1 12 .skip (.exit 0)) (aK (.block 1 (ag [J 13 11,ct 14 4 eC dY,bD 15 4 14,ap 5 (.alloc 131 [.str [],.int .i64 0,.int .i64 0,.int .i64 0]),J 4 13,cn 4 5 en] (bV [J 16 3,aE 17 2 1,aH 18 17,J 19 4,aF 20 .add fD eW,aE 21 1 5,aE 22 2 21,aH 23 22,ap 24 (.build [.int .i64 0,.int .i64 0,.int .i64 0] [(0,1,ga),(1,1,an (-1)),(2,1,fI)]),aE 25 2 1,aH 26 25,J 27 4,aF 28 .add gX e6,aE 29 1 5,aE 30 1 29,aH 31 30,ap 32 (.neg hX),ap 33 (.build [.int .i64 0,.int .i64 0,.int .i64 0] [(0,1,an (-1)),(1,1,gY),(2,1,jc)]),ap 34 (.da 438 3 2 [.int .i64 0,.int .i64 0,.int .i64 0] [(0,fu),(1,gK)]),ap 35 (.append 438 3 24 fV iJ),J 3 35]))) (bV [aF 36 .add dY (an 1),J 11 36]))))))) (ag [J 37 3,aE 38 3 1,aE 39 0 38,aH 40 39,ap 41 (.append 438 3 24 iW jP),J 3 41] (aK (ag [aE 42 3 1,aE 43 1 42,aH 44 43,cm 45 44,bq 46 (an 0)] (.block 2 (.loop (ag [aF 47 .lss kF ka] (aK (a1 47 .skip (.exit 2)) (aK (.block 3 (ag [ct 48 2 jl kF,bD 49 2 48,ap 7 (.alloc 439 [.int .i64 0,.int .i64 0]),cn 2 7 mJ] (bV [J 50 3,ap 51 (.oA 2 1 dx (an 0)),aH 52 51,ap 53 (.oA 2 1 dx (an 1)),aH 54 53,ap 55 (.build [.int .i64 0,.int .i64 0,.int .i64 0] [(0,1,kX),(1,1,mb)]),ap 56 (.oA 2 1 dx (an 1)),aH 57 56,ap 58 (.oA 2 1 dx (an 0)),aH 59 58,ap 60 (.build [.int .i64 0,.int .i64 0,.int .i64 0] [(0,1,lM),(1,1,mK)]),ap 61 (.da 438 3 2 [.int .i64 0,.int .i64 0,.int .i64 0] [(0,lg),(1,nI)]),ap 62 (.append 438 3 24 jH lh),J 3 62]))) (bV [aF 63 .add kF (an 1),J 46 63]))))))) (a6 [J 64 3,J 2 64])))))
def T3:List bc:=[.t 2]
theorem Yz:bR Tryz.prog Tryz.f339 1 NW T3=true:=by kernel_rfl
def NX:bm:=
 ag [ap 2 (.box 72 eQ),bO 3] (a6 [aE 4 0 2,aH 5 4,aH 6 1,aF 7 .eql dU ey,J 3 7])
def T4:List bc:=[.t 3]
theorem YA:bR Tryz.prog Tryz.f341 1 NX T4=true:=by kernel_rfl
def NY:bm:=
 ag [bq 4 (an 0)] (aK (ag [J 6 0,cm 7 6,bq 8 (an 0)] (.block 0 (.loop (ag [aF 9 .lss dG dx] (aK (a1 9 .skip (.exit 0)) (aK (.block 1 (ag [J 10 8,J 5 10] (ag [J 11 1,J 12 0,J 13 5,ct 14 6 dP ek,bD 15 6 14,ap 16 (.gT dY [en])] (a1 16 (a6 [J 17 5,J 4 17]) .skip)))) (bV [aF 18 .add dG (an 1),J 8 18]))))))) (a6 [bq 4 (an (-1))]))
def T5:List bc:=[.t 4]
theorem YB:bR Tryz.prog Tryz.f342 2 NY T5=true:=by kernel_rfl
def NZ:bm:=
 ag [bq 4 (an 0)] (aK (ag [J 6 0,cm 7 6,bq 8 (an 0)] (.block 0 (.loop (ag [aF 9 .lss dG dx] (aK (a1 9 .skip (.exit 0)) (aK (.block 1 (ag [J 10 8,J 5 10] (ag [J 11 1,J 12 0,J 13 5,ct 14 1 dP ek,aH 15 14,ap 16 (.gT dY [en])] (a1 16 (a6 [J 17 5,J 4 17]) .skip)))) (bV [aF 18 .add dG (an 1),J 8 18]))))))) (a6 [bq 4 (an (-1))]))
def T6:List bc:=[.t 4]
theorem YC:bR Tryz.prog Tryz.f343 2 NZ T6=true:=by kernel_rfl
def N2:bm:=
 ag [bq 2 (.c .aD)] (ag [bq 3 (.c .aD)] (aK (ag [J 6 0,cm 7 6,bq 8 (an 0)] (.block 0 (.loop (ag [aF 9 .lss dG dx] (aK (a1 9 .skip (.exit 0)) (aK (.block 1 (ag [ct 10 5 ey dG,bD 11 5 10,ap 5 (.alloc 72 [.str [],.aD,.int .i64 0,.aD,.aD]),cn 5 5 dY] (bV [J 12 3,aE 13 1 5,aH 14 13,ap 15 (.append 131 4 40 dP fx),J 3 15]))) (bV [aF 16 .add dG (an 1),J 8 16]))))))) (a6 [J 17 3,J 2 17])))
def Ub:List bc:=[.t 2]
theorem YH:bR Tryz.prog Tryz.f374 1 N2 Ub=true:=by kernel_rfl
def N3:bm:=
 ag [bO 4] (a6 [J 5 0,J 6 1,bn 7 139 [dU,ey],aF 8 .geq dx (an 0),J 4 8])
def Uc:List bc:=[.t 4]
theorem YI:bR Tryz.prog Tryz.f375 2 N3 Uc=true:=by kernel_rfl
def N4:bm:=
 ag [ap 2 (.box 72 eQ),bO 3] (a6 [aE 4 0 2,aH 5 4,aE 6 0 1,aH 7 6,aF 8 .eql dU dx,J 3 8])
def Ud:List bc:=[.t 3]
theorem YJ:bR Tryz.prog Tryz.f376 1 N4 Ud=true:=by kernel_rfl
def N5:bm:=
 ag [ap 1 (.box 87 eQ),bO 2] (aK (ag [aE 3 0 1,aH 4 3] (.block 0 (ag [aF 6 .eql iv (an 1),J 5 6] (a1 5 (a6 [aE 7 1 1,aH 8 7,aF 9 .geq dG (an (-1000)),J 10 9,bG 11 10 true 1 1,bP 12 10 true 11,bG 13 10 true 2 1,bP 14 10 true 13,cv 15 10 true .leq dP fx,bN 16 fU en cP,J 17 16,bG 18 17 true 2 1,bP 19 17 true 18,cv 20 17 true .leq eW (an 1000),bN 21 fy ga cP,J 2 21]) (ag [aF 23 .eql iv (an 2),J 22 23] (a1 22 (a6 [aE 24 1 1,aH 25 24,aF 26 .geq gb (an 0),J 27 26,bG 28 27 true 1 1,bP 29 27 true 28,bG 30 27 true 2 1,bP 31 27 true 30,cv 32 27 true .leq hW hX,bN 33 e6 jc cP,J 34 33,bG 35 34 true 2 1,bP 36 34 true 35,cv 37 34 true .leq gZ (an 40),bN 38 iJ iW cP,J 2 38]) .skip)))))) (a6 [bO 2]))
def Ue:List bc:=[.t 2]
theorem YK:bR Tryz.prog Tryz.f377 1 N5 Ue=true:=by kernel_rfl
def N6:bm:=
 ag [bO 4] (a6 [J 5 0,J 6 1,bn 7 400 [dU,ey],aF 8 .geq dx (an 0),J 4 8])
def Uf:List bc:=[.t 4]
theorem YL:bR Tryz.prog Tryz.f378 2 N6 Uf=true:=by kernel_rfl
def N7:bm:=
 ag [ap 2 (.box 131 eQ),bO 3] (a6 [aE 4 0 2,aH 5 4,aE 6 0 1,aH 7 6,aF 8 .eql dU dx,J 3 8])
def Ug:List bc:=[.t 3]
theorem YM:bR Tryz.prog Tryz.f379 1 N7 Ug=true:=by kernel_rfl
def N8:bm:=
 ag [ap 2 (.box 70 eQ),bO 4] (aK (ag [aE 11 0 2,aH 12 11,cm 13 12,aF 14 .gtr ek (an 20),J 15 14,bG 16 15 false 1 2,bP 17 15 false 16,bS 18 15 false (.len fy),cv 19 15 false .gtr fD (an 20),bN 20 en dA eW] (a1 20 (a6 [bO 4]) .skip)) (aK (ag [aE 21 0 2,aH 22 21,cm 23 22,bq 24 (an 0)] (.block 0 (.loop (ag [aF 25 .lss fu fI] (aK (a1 25 .skip (.exit 0)) (aK (.block 1 (ag [ct 26 3 gl fu,bD 27 3 26,ap 6 (.alloc 438 [.int .i64 0,.int .i64 0,.int .i64 0]),cn 3 6 e6] (ag [aE 28 0 6,aH 29 28,aE 30 1 6,aH 31 30,ap 32 (.l1 false [hW,hX]),aF 33 .lss jc (an (-1)),J 34 33,bG 35 34 false 0 6,bP 36 34 false 35,bG 37 34 false 1 6,bP 38 34 false 37,bS 39 34 false (.l1 true [gZ,j9]),dh 40 34 false 1,bS 41 34 false (.len jP),cv 42 34 false .geq jk iw,bN 43 iJ dA lf,J 44 43,bG 45 44 false 2 6,bP 46 44 false 45,cv 47 44 false .lss kF (an (-20000)),bN 48 jl dA ma,J 49 48,bG 50 49 false 2 6,bP 51 49 false 50,cv 52 49 false .gtr kG (an 20000),bN 53 mJ dA kX] (a1 53 (a6 [bO 4]) .skip)))) (bV [aF 54 .add fu (an 1),J 24 54]))))))) (aK (ag [aE 55 1 2,aH 56 55,cm 57 56,bq 58 (an 0)] (.block 2 (.loop (ag [aF 59 .lss kH lM] (aK (a1 59 .skip (.exit 2)) (aK (.block 3 (ag [ct 60 2 mc kH,bD 61 2 60,ap 8 (.alloc 439 [.int .i64 0,.int .i64 0]),cn 2 8 lh] (ag [bD 62 2 8,bq 63 (an 0)] (.block 4 (.loop (ag [aF 64 .lss od (an 2)] (aK (a1 64 .skip (.exit 4)) (aK (.block 5 (ag [ap 65 (.kj false 2 1 pI od),J 10 65] (ag [J 66 10,aF 67 .lss oe (an 0),J 68 67,dh 69 68 false 10,dh 70 68 false 1,bS 71 68 false (.len nL),cv 72 68 false .geq pK nM,bN 73 ud dA s4,J 74 73,dh 75 74 false 1,dh 76 74 false 10,bS 77 74 false (.gy 4 qo ue),bG 78 74 false 1 77,bG 79 74 false 0 78,bP 80 74 false 79,cv 81 74 false .neq xb (an 2),bN 82 pM dA s5] (a1 82 (a6 [bO 4]) .skip)))) (bV [aF 83 .add od (an 1),J 63 83]))))))))) (bV [aF 84 .add kH (an 1),J 58 84]))))))) (a6 [ir 4]))))
def Uh:List bc:=[.t 4]
theorem YN:bR Tryz.prog Tryz.f380 2 N8 Uh=true:=by kernel_rfl
def Oa:bm:=
 ag [bq 4 (an 0)] (aK (ag [J 6 0,cm 7 6,bq 8 (an 0)] (.block 0 (.loop (ag [aF 9 .lss dG dx] (aK (a1 9 .skip (.exit 0)) (aK (.block 1 (ag [J 10 8,J 5 10] (ag [J 11 1,J 12 0,J 13 5,ct 14 4 dP ek,bD 15 4 14,ap 16 (.gT dY [en])] (a1 16 (a6 [J 17 5,J 4 17]) .skip)))) (bV [aF 18 .add dG (an 1),J 8 18]))))))) (a6 [bq 4 (an (-1))]))
def r400:List bc:=[.t 4]
theorem YP:bR Tryz.prog Tryz.f400 2 Oa r400=true:=by kernel_rfl
def fS:bm:=
 ag [ap 2 (.box 48 eQ),ap 3 (.box 32 gR),ap 4 (.alloc 40 [.str [],.int .i64 0,.aD,.aD,.aD,.aD]),bq 5 (an 0)] (aK (ag [bD 20 6 2,ap 21 (.fP 3 true 8 e7),bn 22 31 [ga,fW],J 19 22,ap 23 (.extract 0 eW),ap 24 (.extract 1 eW),J 6 23,J 7 24] (ag [J 25 7,aF 26 .neq gb (an 0)] (a1 26 (a6 [ap 27 (.build [.str [],.int .i64 0,.aD,.aD,.aD,.aD] []),cn 6 4 e6,bq 5 (an 1)]) .skip))) (ag [bD 28 6 2,ap 29 (.build [.str [],.str [],.str [],.aD,.aD,.aD,.aD,.aD,.aD,.bool false] [(0,6,gY)]),ap 30 (.box 151 hW),J 8 30] (aK (.region [aE 31 0 2,aH 32 31,ap 33 (.fP 3 true 8 e7),aE 34 1 2,aH 35 34,gD 36 59 [gK,jj],ap 37 (.build [.str [],.int .i64 0,.aD,.aD,.aD,.aD] [(0,1,jc),(1,1,gZ)]),ap 9 (.alloc 40 [.str [],.int .i64 0,.aD,.aD,.aD,.aD]),cn 6 9 iW] true) (aK (ag [aE 38 3 2,aH 39 38,cm 40 39,bq 41 (an 0)] (.block 0 (.loop (ag [aF 42 .lss iw jP] (aK (a1 42 .skip (.exit 0)) (aK (.block 1 (ag [ct 43 7 jk iw,bD 44 7 43,ap 11 (.alloc 146 [.str [],.int .i64 0,.int .i64 0,.int .i64 0,.int .i64 0,.int .i64 0,.str []]),cn 7 11 jl] (bV [aE 45 2 9,aH 46 45,aE 47 0 11,aH 48 47,aE 49 1 11,bD 50 3 49,aE 51 4 11,bD 52 3 51,ap 53 (.build [.str [],.int .i64 0,.int .i64 0,.int .i64 0,.int .i64 0,.int .i64 0,.str []] [(0,1,nH),(1,3,jH),(4,3,kX)]),ap 54 (.da 152 7 1 [.str [],.int .i64 0,.int .i64 0,.int .i64 0,.int .i64 0,.int .i64 0,.str []] [(0,na)]),ap 55 (.append 152 7 72 kF mb),aE 56 2 9,cn 1 56 lg]))) (bV [aF 57 .add iw (an 1),J 41 57]))))))) (aK (ag [aE 58 4 2,aH 59 58,cm 60 59,bq 61 (an 0)] (.block 2 (.loop (ag [aF 62 .lss lh nI] (aK (a1 62 .skip (.exit 2)) (aK (.block 3 (ag [ct 63 4 mK lh,bD 64 4 63,ap 13 (.alloc 84 [.str [],.str [],.aD,.aD]),cn 4 13 nJ] (ag [ap 65 (.fP 3 true 8 e7),aE 66 0 13,aH 67 66,bn 68 60 [pJ,nK],J 14 68] (.region [aE 69 3 9,ap 70 (.fP 9 false 1 pK),ap 71 (.fP 3 true 8 e7),aE 72 1 13,ap 73 (.fP 13 false 1 s4),gD 74 59 [nM,pL],J 75 14,J 76 8,ap 77 (.fP 13 true 4 ek),aE 78 2 3,ap 79 (.fP 3 false 1 yD),J 80 14,ct 81 5 xa xb,ap 82 (.pA true 5 s5),ap 83 (.gN [9,3,13] 61 [ue,pN,Fg]),ap 84 (.build [.int .i64 0,.int .i64 0,.int .i64 0] [(0,1,pM),(1,1,qo),(2,1,vF)]),ap 85 (.da 58 3 1 [.int .i64 0,.int .i64 0,.int .i64 0] [(0,vG)]),ap 86 (.append 58 3 24 nL Al),aE 87 3 9,cn 1 87 vH] true)))) (bV [aF 88 .add lh (an 1),J 61 88]))))))) (aK (ag [aE 89 5 2,aH 90 89,cm 91 90,bq 92 (an 0)] (.block 4 (.loop (ag [aF 93 .lss xc Ao] (aK (a1 93 .skip (.exit 4)) (aK (.block 5 (ag [ct 94 4 An xc,bD 95 4 94,ap 16 (.alloc 148 [.str [],.str [],.aD,.aD]),cn 4 16 Fh] (ag [J 97 8,bD 98 4 16,bn 99 62 [CN,Fj],J 96 99,ap 100 (.extract 0 Fi),ap 101 (.extract 1 Fi),J 17 100,J 18 101] (.region [aE 102 4 9,aH 103 102,ap 104 (.fP 3 true 8 e7),aE 105 1 16,aH 106 105,gD 107 59 [Vh,JO],ap 108 (.fP 3 true 8 e7),aE 109 0 16,aH 110 109,gD 111 60 [JP,JQ],J 112 17,J 113 18,ap 114 (.build [.int .i64 0,.int .i64 0,.int .i64 0,.int .i64 0] [(0,1,Vi),(1,1,Vk),(2,1,Vl),(3,1,Vm)]),ap 115 (.da 62 4 1 [.int .i64 0,.int .i64 0,.int .i64 0,.int .i64 0] [(0,Vn)]),ap 116 (.append 62 4 32 JN Ff),aE 117 4 9,cn 1 117 Vo] true)))) (bV [aF 118 .add xc (an 1),J 92 118]))))))) (aK (ag [J 119 8,ap 120 (.eB Vq),aE 121 6 120,aH 122 121,ap 123 (.iq a01),aF 124 .eql Vs (an 0)] (a1 124 (bV [J 125 8,bn 126 63 [Vt,an 24,an 0]]) .skip)) (aK (ag [J 127 8,ap 128 (.eB JR),aE 129 6 128,aH 130 129,ap 131 (.iq Vv),aF 132 .gtr JS (an 1000),J 133 132,dh 134 133 false 8,bS 135 133 false (.eB a05),bG 136 133 false 9 135,bP 137 133 false 136,bN 138 JT dA JU] (a1 138 (a6 [ap 139 (.build [.str [],.int .i64 0,.aD,.aD,.aD,.aD] []),cn 6 4 a06,bq 5 (an 6)]) .skip)) (ag [J 140 8,ap 141 (.eB Vz),aE 142 6 141,aH 143 142,aE 144 5 9,cn 1 144 JV] (a6 [bD 145 6 9,cn 6 4 JW,bq 5 (an 0)]))))))))))
def SY:List bc:=[.cell true 6 4,.t 5]
theorem Xw:bR Tryz.prog Tryz.f20 2 fS SY=true:=by kernel_rfl
def wi:bm:=
 ag [ap 4 (.box 84 gR),ap 5 (.box 72 VC),bq 6 (an 0)] (ag [J 10 0,ap 11 (.eB fU),aE 12 6 11,aH 13 12,ap 14 (.iq ek),J 7 14] (ag [J 15 0,J 16 0,aE 17 2 4,aH 18 17,ap 19 (.eB en),aE 20 7 19,cn 1 20 fD,ap 21 (.eB fV),aE 22 8 21,cn 1 22 (.c .aD)] (aK (ag [aE 23 1 5,aH 24 23,cm 25 24,bq 26 (an 0)] (.block 0 (.loop (ag [aF 27 .lss gX gb] (aK (a1 27 .skip (.exit 0)) (aK (.block 1 (ag [ct 28 4 fu gX,bD 29 4 28,ap 9 (.alloc 131 [.str [],.int .i64 0,.int .i64 0,.int .i64 0]),cn 4 9 hW] (.region [J 30 0,J 31 0,ap 32 (.eB hX),aE 33 8 32,aH 34 33,aE 35 1 9,aE 36 0 35,aH 37 36,ap 38 (.da 3 1 1 [.int .i64 0] [(0,iW)]),ap 39 (.append 3 1 8 iJ j9),ap 40 (.eB jO),aE 41 8 40,cn 1 41 jk] true))) (bV [aF 42 .add gX (an 1),J 26 42]))))))) (ag [J 43 0,aE 44 3 4,aH 45 44,bn 46 141 [jG,ka,an 0]] (ag [J 47 0,bn 48 63 [ma,an 24,an 0]] (ag [J 49 0,J 50 0,ap 51 (.eB mJ),aE 52 7 51,cn 1 52 (.c .aD),ap 53 (.eB jH),aE 54 8 53,cn 1 54 (.c .aD)] (a6 [J 55 7,J 6 55])))))))
def Um:List bc:=[.t 6]
theorem YS:bR Tryz.prog Tryz.f61 3 wi Um=true:=by kernel_rfl
def rn:bm:=
 ag [ap 3 (.box 148 gR),bq 4 (an 0),bq 5 (an 0)] (ag [bq 4 (an (-1))] (aK (ag [aE 8 3 3,aH 9 8,cm 10 9,aF 11 .gtr fU (an 0)] (a1 11 (ag [J 12 0,ap 13 (.eB dP),aE 14 6 13,aH 15 14,ap 16 (.iq en),J 4 16] (ag [J 17 0,aE 18 3 3,aH 19 18,ct 20 6 eW (an 0),bD 21 6 20,bn 22 142 [fy,fW]] (bV [J 23 0,bn 24 63 [fI,an 24,an 0]]))) .skip)) (ag [J 25 0,ap 26 (.eB gb),aE 27 6 26,aH 28 27,ap 29 (.iq gY),J 5 29] (aK (ag [aE 30 2 3,aH 31 30,cm 32 31,bq 33 (an 0)] (.block 0 (.loop (ag [aF 34 .lss gK jc] (aK (a1 34 .skip (.exit 0)) (aK (.block 1 (ag [ct 35 6 hX gK,bD 36 6 35,ap 7 (.alloc 80 [.int .i64 0,.str [],.str [],.str [],.int .i64 0,.aD]),cn 6 7 gZ] (bV [J 37 0,bD 38 6 7,bn 39 142 [iW,j9]]))) (bV [aF 40 .add gK (an 1),J 33 40]))))))) (ag [J 41 0,bn 42 63 [iw,an 24,an 0]] (a6 [J 43 4,J 44 5,J 4 43,J 5 44]))))))
def Jb:List bc:=[.t 4,.t 5]
theorem Lz:bR Tryz.prog Tryz.f62 2 rn Jb=true:=by kernel_rfl
def zo:bm:=
 ag [bq 6 (an 0)] (ag [J 7 0,J 8 0,ap 9 (.eB dG),aE 10 6 9,aH 11 10,J 12 1,J 13 2,ap 14 (.build [.int .i64 0,.int .i64 0,.str []] [(0,1,dP),(1,1,ek)]),ap 15 (.da 64 3 1 [.int .i64 0,.int .i64 0,.str []] [(0,fx)]),ap 16 (.nj 64 3 32 dY en),ap 17 (.eB dx),aE 18 6 17,cn 1 18 fV] (a6 [J 19 0,ap 20 (.eB eW),aE 21 6 20,aH 22 21,ap 23 (.iq gl),aF 24 .sub fI (an 1),J 6 24]))
def Un:List bc:=[.t 6]
theorem YT:bR Tryz.prog Tryz.f63 3 zo Un=true:=by kernel_rfl
def Gw:bm:=
 ag [J 10 1,cm 11 10,bq 12 (an 0)] (.block 0 (.loop (ag [aF 13 .lss dP dY] (aK (a1 13 .skip (.exit 0)) (aK (.block 1 (ag [ct 14 11 fU dP,bD 15 11 14,ap 7 (.alloc 82 [.int .i64 0,.str [],.int .i64 0,.str [],.str [],.str [],.int .i64 0,.aD,.int .i64 0,.aD,.aD]),cn 11 7 en] (ag [aE 16 0 7,aH 17 16] (.block 2 (ag [aF 55 .eql fy (an 1),J 54 55] (a1 54 (ag [J 56 0,aE 57 2 7,bD 58 6 57,bn 59 142 [mc,kH]] (bV [J 60 0,J 61 0,aE 62 1 7,aH 63 62,bn 64 252 [lh,od],bn 65 63 [nI,an 5,nJ]])) (ag [aF 67 .eql fy (an 2),J 66 67] (a1 66 (bV [J 68 0,bD 69 11 7,J 70 2,bn 71 253 [ud,pK,nL]]) (ag [J 18 0,J 19 0,ap 20 (.eB eW),aE 21 9 20,aH 22 21,J 23 22,dh 24 23 false 2,cv 25 23 false .eql fu (an 4),bN 26 fI dA gb,ap 27 (.eB fD),aE 28 9 27,cn 1 28 gX] (ag [J 29 0,aE 30 8 7,aH 31 30,bn 32 63 [hW,an 21,hX],J 8 32] (ag [J 33 0,aE 34 2 7,bD 35 6 34,bn 36 142 [gK,jj]] (ag [J 37 0,bn 38 63 [iW,an 20,an 0],J 9 38] (ag [J 39 0,aE 40 9 7,aH 41 40,J 42 2,aF 43 .add lf (an 1),bn 44 141 [jk,iw,jG]] (ag [J 45 0,J 46 8,aF 47 .add kF (an 1),bn 48 63 [ka,an 22,ma]] (ag [J 49 0,J 50 9,bn 51 254 [mJ,jH]] (bV [J 52 0,bn 53 63 [kX,an 23,an 0]])))))))))))))))) (bV [aF 72 .add dP (an 1),J 12 72]))))))
def I1:List bc:=[]
theorem Lp:bR Tryz.prog Tryz.f141 3 Gw I1=true:=by kernel_rfl
def xF:bm:=
 ag [ap 3 (.box 80 gR)] (ag [aE 5 0 3,aH 6 5] (.block 0 (ag [aF 11 .eql ey (an 1),J 10 11] (a1 10 (bV [J 12 0,aE 13 4 3,aH 14 13,bn 15 63 [dP,an 1,fx]]) (ag [aF 17 .eql ey (an 2),J 16 17] (a1 16 (.region [J 18 0,J 19 0,ap 20 (.eB eW),aE 21 6 20,aH 22 21,aE 23 3 3,aH 24 23,ap 25 (.build [.int .i64 0,.int .i64 0,.str []] [(0,1,an 2),(2,1,fu)]),ap 26 (.da 64 3 1 [.int .i64 0,.int .i64 0,.str []] [(0,gb)]),ap 27 (.nj 64 3 32 gl gX),ap 28 (.eB fD),aE 29 6 28,cn 1 29 e6] true) (ag [aF 31 .eql ey (an 3),J 30 31] (a1 30 (aK (.region [J 32 0,ap 33 (.eB jc),aE 34 7 33,aH 35 34,aE 36 2 3,aH 37 36,gD 38 93 [jj,iW],J 4 38] true) (ag [J 39 4,aF 40 .geq jk (an 0)] (a1 40 (bV [J 41 0,J 42 4,bn 43 63 [iw,an 4,lf]]) (bV [J 44 0,J 45 0,aE 46 2 3,aH 47 46,bn 48 252 [ka,ma],bn 49 63 [jl,an 3,nH]])))) (ag [aF 51 .eql ey (an 4),J 50 51] (a1 50 (ag [J 52 0,aE 53 5 3,aH 54 53,ct 55 6 mb (an 0),bD 56 6 55,bn 57 142 [kX,mc]] (bV [J 58 0,bn 59 63 [kH,an 18,an 0]])) (ag [aF 61 .eql ey (an 5),J 60 61] (a1 60 (ag [J 62 0,aE 63 5 3,aH 64 63,ct 65 6 nJ (an 0),bD 66 6 65,bn 67 142 [pI,oe]] (ag [aE 68 1 3,aH 69 68,aF 70 .eql pK (bZ [45])] (a1 70 (bV [J 71 0,bn 72 63 [nM,an 11,an 0]]) (bV [J 73 0,bn 74 63 [pL,an 14,an 0]])))) (bV [J 7 0,bD 8 6 3,bn 9 255 [dx,dG]])))))))))))))
def yw:List bc:=[]
theorem y7:bR Tryz.prog Tryz.f142 2 xF yw=true:=by kernel_rfl
def n1:bm:=
 ag [ap 3 (.box 9 gR),bq 4 (an 0)] (a6 [J 5 0,ap 6 (.eB dU),aE 7 0 6,aE 8 3 7,aH 9 8,ap 10 (.j6 335 [e7]),bn 11 261 [eC,fU],J 4 11])
def Tq:List bc:=[.t 4]
theorem XY:bR Tryz.prog Tryz.f252 2 n1 Tq=true:=by kernel_rfl
def GD:bm:=
 ag [ap 4 (.box 82 gR)] (ag [J 8 0,aE 9 2 4,bD 10 6 9,bn 11 142 [dG,fU]] (ag [J 12 0,bn 13 63 [dP,an 20,an 0],J 6 13] (ag [J 14 0,aE 15 9 4,aH 16 15,J 17 2,bn 18 141 [fx,fV,fy]] (aK (ag [aE 19 10 4,aH 20 19,cm 21 20,aF 22 .eql fW (an 0)] (a1 22 (a6 [J 23 0,J 24 6,bn 25 254 [fI,fu]]) .skip)) (ag [J 26 0,bn 27 63 [gX,an 19,an 0],J 7 27] (ag [J 28 0,J 29 6,bn 30 254 [gY,hW]] (ag [J 31 0,aE 32 10 4,aH 33 32,J 34 2,bn 35 141 [hX,gK,iJ]] (bV [J 36 0,J 37 7,bn 38 254 [gZ,iW]]))))))))
def I5:List bc:=[]
theorem Lt:bR Tryz.prog Tryz.f253 3 GD I5=true:=by kernel_rfl
def Nq:bm:=
 .region [J 4 0,ap 5 (.eB iv),aE 6 6 5,aH 7 6,J 8 1,J 9 0,ap 10 (.eB eC),aE 11 6 10,aH 12 11,ap 13 (.iq dP),ap 14 (.jr 3 dx dG),ap 15 (.jJ 1 fx),cn 1 15 ek] true
def Tr:List bc:=[]
theorem XZ:bR Tryz.prog Tryz.f254 2 Nq Tr=true:=by kernel_rfl
def Nr:bm:=
 ag [ap 3 (.box 80 gR)] (ag [aE 10 1 3,aH 11 10,bn 12 336 [dY],J 9 12,ap 13 (.extract 0 eC),ap 14 (.extract 1 eC),ap 15 (.extract 2 eC),J 4 13,J 5 14,J 6 15] (aK (ag [aE 16 1 3,aH 17 16,aF 18 .eql fy (bZ [43]),J 19 18,dh 20 19 true 0,bG 21 19 true 5 3,bP 22 19 true 21,bS 23 19 true (.gy 6 gl (an 0)),bS 24 19 true (.load true 6 fI),fe 25 19 true 337 [ga,fu],bN 26 eW gb cP] (a1 26 (bV [bq 4 (an 17)]) .skip)) (aK (.region [aE 27 5 3,ap 28 (.fP 3 false 1 e6),ct 29 6 gY (an 0),ap 30 (.pA true 6 hW),aE 31 5 3,ap 32 (.fP 3 false 1 hX),ct 33 6 jc (an 1),ap 34 (.pA true 6 gK),ap 7 (.alloc 80 [.int .i64 0,.str [],.str [],.str [],.int .i64 0,.aD]),ap 8 (.alloc 80 [.int .i64 0,.str [],.str [],.str [],.int .i64 0,.aD]),sz (.hP 7 [8,3] 6 dx jO),sz (.hP 8 [7,3] 6 dG iJ)] true) (aK (ag [J 35 5] (a1 35 (bV [bD 36 6 8,bD 37 6 7,sz (.hP 7 [8,3] 6 dx gZ),sz (.hP 8 [7,3] 6 dG iW)]) .skip)) (ag [J 38 0,bD 39 6 7,bn 40 142 [j9,jk]] (ag [J 41 0,bD 42 6 8,bn 43 142 [iw,lf]] (ag [J 44 0,J 45 4,bn 46 63 [jl,ka,an 0]] (ag [J 47 6] (a1 47 (bV [J 48 0,bn 49 63 [nH,an 14,an 0]]) .skip)))))))))
def Ts:List bc:=[]
theorem X0:bR Tryz.prog Tryz.f255 2 Nr Ts=true:=by kernel_rfl
def NU:bm:=
 ag [ap 2 (.box 146 eQ),bO 3] (a6 [aE 4 0 2,aH 5 4,aH 6 1,aF 7 .eql dU ey,J 3 7])
def TX:List bc:=[.t 3]
theorem Yv:bR Tryz.prog Tryz.f335 1 NU TX=true:=by kernel_rfl
def zl:bm:=
 ag [bq 2 (an 0),bO 3,bO 4] (aK (ag [J 5 0] (.block 0 (ag [aF 7 .eql dU (bZ [45]),J 6 7] (a1 6 (a6 [bq 2 (an 7),bO 3,bO 4]) (ag [aF 9 .eql dU (bZ [42]),J 8 9] (a1 8 (a6 [bq 2 (an 8),bO 3,bO 4]) (ag [aF 11 .eql dU (bZ [47]),J 10 11] (a1 10 (a6 [bq 2 (an 9),bO 3,bO 4]) (ag [aF 13 .eql dU (bZ [37]),J 12 13] (a1 12 (a6 [bq 2 (an 10),bO 3,bO 4]) (ag [aF 15 .eql dU (bZ [38,38]),J 14 15] (a1 14 (a6 [bq 2 (an 15),bO 3,bO 4]) (ag [aF 17 .eql dU (bZ [124,124]),J 16 17] (a1 16 (a6 [bq 2 (an 16),bO 3,bO 4]) (ag [aF 19 .eql dU (bZ [61,61]),J 18 19] (a1 18 (a6 [bq 2 (an 12),bO 3,bO 4]) (ag [aF 21 .eql dU (bZ [33,61]),J 20 21] (a1 20 (a6 [bq 2 (an 12),bO 3,ir 4]) (ag [aF 23 .eql dU (bZ [60]),J 22 23] (a1 22 (a6 [bq 2 (an 13),bO 3,bO 4]) (ag [aF 25 .eql dU (bZ [62,61]),J 24 25] (a1 24 (a6 [bq 2 (an 13),bO 3,ir 4]) (ag [aF 27 .eql dU (bZ [62]),J 26 27] (a1 26 (a6 [bq 2 (an 13),ir 3,bO 4]) (ag [aF 29 .eql dU (bZ [60,61]),J 28 29] (a1 28 (a6 [bq 2 (an 13),ir 3,ir 4]) .skip)))))))))))))))))))))))))) (a6 [bq 2 (an 6),bO 3,bO 4]))
def TY:List bc:=[.t 2,.t 3,.t 4]
theorem Yw:bR Tryz.prog Tryz.f336 1 zl TY=true:=by kernel_rfl
def sd:bm:=
 ag [ap 3 (.box 80 gR),bO 4] (aK (ag [aE 6 0 3,aH 7 6] (.block 0 (ag [aF 9 .eql dx (an 2),J 8 9] (a1 8 (a6 [ir 4]) (ag [aF 11 .eql dx (an 3),J 10 11] (a1 10 (aK (aK (.region [J 12 0,ap 13 (.eB dP),aE 14 7 13,aH 15 14,aE 16 2 3,aH 17 16,gD 18 93 [en,fy],J 5 18] true) (ag [J 19 5,aF 20 .geq eW (an 0)] (a1 20 (a6 [J 21 0,ap 22 (.eB fW),aE 23 8 22,aH 24 23,J 25 5,ct 26 1 fu gb,aH 27 26,aF 28 .eql e6 (an 2),J 4 28]) .skip))) (aK (.region [J 29 0,ap 30 (.eB hW),aE 31 0 30,aE 32 3 31,ap 33 (.fP 0 false 1 jc),J 34 0,aE 35 2 3,ap 36 (.fP 3 false 1 jj),ap 37 (.gN [0,3] 252 [iJ,gZ]),ct 38 7 gK iW,aE 39 1 38,aE 40 0 39,ap 41 (.pA false 1 jP),aF 42 .eql iw (an 2),J 4 42] true) .ret)) (ag [aF 44 .eql dx (an 6),J 43 44] (a1 43 (a6 [aE 45 1 3,aH 46 45,aF 47 .eql kF (bZ [43]),J 48 47,dh 49 48 true 0,bG 50 48 true 5 3,bP 51 48 true 50,bS 52 48 true (.gy 6 kG (an 0)),bS 53 48 true (.load true 6 kX),fe 54 48 true 337 [mJ,na],bN 55 nH mb cP,J 4 55]) .skip)))))))) (a6 [bO 4]))
def TZ:List bc:=[.t 4]
theorem Yx:bR Tryz.prog Tryz.f337 2 sd TZ=true:=by kernel_rfl
end Go.aO.T.N
