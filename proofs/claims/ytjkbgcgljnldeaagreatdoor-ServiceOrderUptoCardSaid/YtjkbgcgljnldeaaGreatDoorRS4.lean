/- Part of a proof; own work. -/
import Derived.Test.YtjkbgcgljnldeaaGreatDoorProg
import Derived.Test.YtjkbgcgljnldeaaGreatDoorRS3
set_option linter.unusedVariables false
set_option linter.unusedSimpArgs false
namespace Go.bc
open Go
section
variable {P:Program}{aL:List bk}{cD t0:Nat}{k:List ga}{Q:Out→a1→Prop}{env:Env}{c c1:a1}{v:I}
theorem wq.mono {f:FuncId}{gr:List I}{x:I}{c:a1}{yl uY:a1→Prop}(h:wq P f gr x c yl) (bG: ∀cB,yl cB→uY cB):wq P f gr x c uY:=fun H0 s yp cY H J aa au=>
  tE.mono (h H0 s yp cY H J aa au) fun dk ⟨bM,c1,g1,g2,g3⟩=>⟨bM,c1,g1,bG c1 g2,g3⟩
theorem aj.IB {d:Nat}{f:FuncId}{cap:List aK}(Qp:I→a1→Prop) (kt:Env) (Bl: ∀p∈kt,env.get p.1=p.2) (Zl: ∀p∈kt,d≠p.1) (Zn: ∀p∈kt,zk p.1 k=true)
    (aW:c9 P f=true) (hid: ∀gr:List I,gr.length=cap.length→Ab P f gr) (aC:s8 k=true)
    (hp: ∀x c1,Qp x c1→wq P f (cap.map (bp env)) x c1 fun c2=> ∃v,oa aL kt c2.H=some v∧Q (.ret v) c2)
    (h:aj P aL c.b7 c.bF k (fun o c=>match o with| .ret v=>Q (.ret v) c| .eR x=>Qp x c) ((d,.fn f (cap.map (bp env)))::env) c):aj P aL cD t0 (.c (.rv d f cap)::k) Q env c:=fun H0 du s bb H R a6 aO ap he ag an=>by
  have Eb:gK s ((d,.fn f (cap.map (bp env)))::env) ((d,.fn f (cap.map (aK.aJ bb)))::bb):=he.put (by simp only[aN]; exact⟨_,rfl,mU he cap⟩) (some d)
  have Y7:gK s kt (tmpsOf bb kt):=fun j=>by
    rcases Gi bb kt j with e|⟨_,e⟩
    ·rw[e]
     exact gK.x6 (MD kt Bl) he j
    ·rw[e]
     exact aN.ew _ _
  refine .rv (fun o aF=>match o with
    | .ret x=>R (.ret x) aF
    | .eR cY=> ∃bM x c1,bt.et du bM∧bt.et s bM∧Qp x c1∧aN bM x cY∧eW H0 bM c1 aF) (tmpsOf bb kt) (fun j=> ?_) (fun p hp=> ?_) (fun p hp=> ?_) (EN aC) aW (hid _ (List.length_map _)) (fun v aF h=>h) (fun cY aF ab=> ?_) ?_
  ·rcases Gi bb kt j with e|⟨e,_⟩<;>rw[e]
   ·exact eI.refl _
   ·exact eI.ew _
  ·obtain⟨q,bG,rfl⟩:=List.mem_map.1 hp
   exact EP (Zn q bG)
  ·obtain⟨q,bG,rfl⟩:=List.mem_map.1 hp
   exact Zl q bG
  ·obtain⟨bM,x,c1,kS,cI,c8,ep,gw⟩:=ab
   refine tE.mono (hp x c1 c8 H0 bM _ cY aF (bs.mono cI _ _ (mU he cap)) ep gw) fun dk ⟨s2,c2,g1,⟨v,g2,g3⟩,g4⟩=> ?_
   obtain⟨bT,J,aa⟩:=Dm (Y7.mono (cI.trans g1)) g4 g2
   exact⟨bT,J,an s2 (.ret v) (.ret bT) c2 dk (kS.trans g1) g3 aa g4⟩
  ·rw[EO (s1:=s) aC]
   refine h H0 s s _ H _ ag.b7.symm ag.bF.symm (bt.et.refl s) Eb ag fun bM o gP c1 aF cI c8 ep gw=> ?_
   cases o with
   |ret x=>
    cases gP with
    |ret cY=>exact an bM (.ret x) (.ret cY) c1 aF (ap.trans cI) c8 ep gw
    |eR cY=>cases ep
   |eR x=>
    cases gP with
    |ret cY=>cases ep
    |eR cY=>exact⟨bM,x,c1,ap.trans cI,cI,c8,ep,gw⟩
end
section
variable {P:Program}{env:Env}{c:a1}{anns:List I}{l:List bP}{K:Env→a1→Prop}{Rp:I→a1→Prop}{f:FuncId}{args:List aK}{dz:List I}
theorem D.S3 {d:Option Nat}(s:bt){gd:fe}{gn:fp}{n q:Nat}{x:I}(h:bz P f dz (a1.of n q gd gn) (uZ x)) (aC:Rp x (c.mM s [] []))
    (ah:(s.b.length==n&&(s.t.length==q&&(nodupB s.b&&(nodupB s.t&&(s.b.all (fun x=>Nat.blt x c.b7)&&(s.t.all (fun x=>Nat.blt x c.bF)&&(dr n q dz&&(dP n q gd&&(dV n q gn&&x.cR n q)))))))))=true:=by simp (disch:=omega) only[go_sem,simprocAttr]<;>rfl) (dX:lX c.H.aU s gd:=by repeat first|exact trivial|refine⟨rfl,?_⟩) (c4:nJ c.H.tok s gn:=by repeat first|exact trivial|refine⟨rfl,?_⟩) (aP:args.map (bp env)=hB s dz:=by simp (disch:=omega) only[go_sem,simprocAttr]<;>rfl) (ag:x.eF s=x:=by rfl):ae P anns (⟨d,none,.call f args⟩::l) env c K Rp:=by
  simp only[Bool.and_eq_true,beq_iff_eq]at ah
  obtain⟨c1,c2,gg,iJ,nB,oK,qp,sI,oL,sH⟩:=ah
  refine ae.Dl rfl (bz.DN s h c1 c2 (by rw[gg,iJ,nB,oK]; rfl) dX c4 (by rw[qp,sI,oL]; rfl) sH ag rfl) aP ?_ ?_
  ·rintro v c1 ⟨e,_⟩
   cases e
  ·rintro v c1 ⟨e,rfl⟩
   cases e
   exact aC
end
end Go.bc
namespace Go.bc
open Go
structure nZ (A:Prop):Prop where
  a:A
theorem ao {A B:Prop}(aC:A) (h:nZ A→B:=by intro aC; (repeat' first|refine D.S ?_|refine D.cN true true ?_|refine ae.nil ?_|refine aj.b6 ?_|refine D.W ?_|refine D.Z ?_|refine D.X ‹_› ?_|refine D.eh ‹_› ?_|refine D.ei ‹_› ?_); exact aC.a):B:=h ⟨aC⟩
theorem yc {A B:Prop}(aC:A) (h:nZ A→B:=by intro aC; (repeat' first|refine D.S ?_|refine D.cN true false ?_|refine ae.nil ?_|refine aj.b6 ?_|refine D.W ?_|refine D.Z ?_|refine D.X ‹_› ?_|refine D.eh ‹_› ?_|refine D.ei ‹_› ?_); exact aC.a):B:=h ⟨aC⟩
theorem bK {A B:Prop}(aC:A) (h:nZ A→B:=by intro aC; (repeat' first|refine D.S ?_|refine ae.nil ?_|refine D.W ?_|refine D.Z ?_|refine D.X ‹_› ?_|refine D.eh ‹_› ?_|refine D.ei ‹_› ?_); exact aC.a):B:=h ⟨aC⟩
theorem iT {A B:Prop}(aC:A) (h:nZ A→B:=by intro aC; ((repeat refine D.cN true true ?_); (refine aj.b6 ?_); (repeat' first|refine D.S ?_|refine ae.nil ?_|refine D.W ?_|refine D.Z ?_|refine D.X ‹_› ?_|refine D.eh ‹_› ?_|refine D.ei ‹_› ?_)); exact aC.a):B:=h ⟨aC⟩
theorem bQ {A B:Prop}(aC:A) (h:nZ A→B:=by intro aC; (repeat' first|(apply ae.s rfl; (·simp (disch:=omega) only[go_sem,simprocAttr,al]<;>with_reducible rfl))|(apply aj.s true true; (·simp (disch:=omega) only[go_sem,simprocAttr,al]<;>with_reducible rfl))|apply ae.nil|(refine aj.b6 ?_)|(apply ae.eX; (·simp (disch:=omega) only[go_sem,simprocAttr,al]<;>with_reducible rfl))|(apply ae.eY; (·rfl); (·simp (disch:=omega) only[go_sem,simprocAttr,al]<;>with_reducible rfl))|((first|apply ae.e3|apply ae.e4|apply ae.e5); (·simp (disch:=omega) only[go_sem,simprocAttr,al]<;>with_reducible rfl); (·simp (disch:=omega) only[go_sem,simprocAttr,al]<;>with_reducible rfl); (·assumption); (·omega))); exact aC.a):B:=h ⟨aC⟩
theorem pu {A B:Prop}(aC:A) (h:nZ A→B:=by intro aC; (repeat' first|(apply ae.s rfl; (·simp (disch:=omega) only[go_sem,simprocAttr,al]<;>with_reducible rfl))|(apply aj.s true false; (·simp (disch:=omega) only[go_sem,simprocAttr,al]<;>with_reducible rfl))|apply ae.nil|(refine aj.b6 ?_)|(apply ae.eX; (·simp (disch:=omega) only[go_sem,simprocAttr,al]<;>with_reducible rfl))|(apply ae.eY; (·rfl); (·simp (disch:=omega) only[go_sem,simprocAttr,al]<;>with_reducible rfl))|((first|apply ae.e3|apply ae.e4|apply ae.e5); (·simp (disch:=omega) only[go_sem,simprocAttr,al]<;>with_reducible rfl); (·simp (disch:=omega) only[go_sem,simprocAttr,al]<;>with_reducible rfl); (·assumption); (·omega))); exact aC.a):B:=h ⟨aC⟩
theorem rj {A B:Prop}(aC:A) (h:nZ A→B:=by intro aC; (repeat' first|(apply ae.s rfl; (·simp (disch:=omega) only[go_sem,simprocAttr,al]<;>with_reducible rfl))|apply ae.nil|(apply ae.eX; (·simp (disch:=omega) only[go_sem,simprocAttr,al]<;>with_reducible rfl))|(apply ae.eY; (·rfl); (·simp (disch:=omega) only[go_sem,simprocAttr,al]<;>with_reducible rfl))|((first|apply ae.e3|apply ae.e4|apply ae.e5); (·simp (disch:=omega) only[go_sem,simprocAttr,al]<;>with_reducible rfl); (·simp (disch:=omega) only[go_sem,simprocAttr,al]<;>with_reducible rfl); (·assumption); (·omega))); exact aC.a):B:=h ⟨aC⟩
theorem gA {A B:Prop}(aC:A) (h:nZ A→B:=by intro aC; ((repeat (apply aj.s true true; (·simp (disch:=omega) only[go_sem,simprocAttr,al]<;>with_reducible rfl))); (refine aj.b6 ?_); (repeat' first|(apply ae.s rfl; (·simp (disch:=omega) only[go_sem,simprocAttr,al]<;>with_reducible rfl))|apply ae.nil|(apply ae.eX; (·simp (disch:=omega) only[go_sem,simprocAttr,al]<;>with_reducible rfl))|(apply ae.eY; (·rfl); (·simp (disch:=omega) only[go_sem,simprocAttr,al]<;>with_reducible rfl))|((first|apply ae.e3|apply ae.e4|apply ae.e5); (·simp (disch:=omega) only[go_sem,simprocAttr,al]<;>with_reducible rfl); (·simp (disch:=omega) only[go_sem,simprocAttr,al]<;>with_reducible rfl); (·assumption); (·omega)))); exact aC.a):B:=h ⟨aC⟩
theorem yd {A B:Prop}(aC:A) (h:nZ A→B:=by intro aC; (repeat (apply aj.s true true; (·simp (disch:=omega) only[go_sem,simprocAttr,al]<;>with_reducible rfl))); exact aC.a):B:=h ⟨aC⟩
theorem e8 {A B:Prop}(aC:A) (h:nZ A→B:=by intro aC; (repeat' first|(apply ae.s rfl; (·simp (disch:=omega) only[go_sem,simprocAttr,al,z2]<;>with_reducible rfl))|(apply aj.s true true; (·simp (disch:=omega) only[go_sem,simprocAttr,al,z2]<;>with_reducible rfl))|apply ae.nil|(refine aj.b6 ?_)|(apply ae.eX; (·simp (disch:=omega) only[go_sem,simprocAttr,al,z2]<;>with_reducible rfl))|(apply ae.eY; (·rfl); (·simp (disch:=omega) only[go_sem,simprocAttr,al,z2]<;>with_reducible rfl))|((first|apply ae.e3|apply ae.e4|apply ae.e5); (·simp (disch:=omega) only[go_sem,simprocAttr,al,z2]<;>with_reducible rfl); (·simp (disch:=omega) only[go_sem,simprocAttr,al,z2]<;>with_reducible rfl); (·assumption); (·omega))); exact aC.a):B:=h ⟨aC⟩
theorem GX {A B:Prop}(aC:A) (h:nZ A→B:=by intro aC; (repeat' first|(apply ae.s rfl; (·simp (disch:=omega) only[go_sem,simprocAttr,al,z2]<;>with_reducible rfl))|apply ae.nil|(apply ae.eX; (·simp (disch:=omega) only[go_sem,simprocAttr,al,z2]<;>with_reducible rfl))|(apply ae.eY; (·rfl); (·simp (disch:=omega) only[go_sem,simprocAttr,al,z2]<;>with_reducible rfl))|((first|apply ae.e3|apply ae.e4|apply ae.e5); (·simp (disch:=omega) only[go_sem,simprocAttr,al,z2]<;>with_reducible rfl); (·simp (disch:=omega) only[go_sem,simprocAttr,al,z2]<;>with_reducible rfl); (·assumption); (·omega))); exact aC.a):B:=h ⟨aC⟩
theorem fo {A B:Prop}(aC:A) (h:nZ A→B:=by intro aC; ((repeat (apply aj.s true true; (·simp (disch:=omega) only[go_sem,simprocAttr,al,z2]<;>with_reducible rfl))); (refine aj.b6 ?_); (repeat' first|(apply ae.s rfl; (·simp (disch:=omega) only[go_sem,simprocAttr,al,z2]<;>with_reducible rfl))|apply ae.nil|(apply ae.eX; (·simp (disch:=omega) only[go_sem,simprocAttr,al,z2]<;>with_reducible rfl))|(apply ae.eY; (·rfl); (·simp (disch:=omega) only[go_sem,simprocAttr,al,z2]<;>with_reducible rfl))|((first|apply ae.e3|apply ae.e4|apply ae.e5); (·simp (disch:=omega) only[go_sem,simprocAttr,al,z2]<;>with_reducible rfl); (·simp (disch:=omega) only[go_sem,simprocAttr,al,z2]<;>with_reducible rfl); (·assumption); (·omega)))); exact aC.a):B:=h ⟨aC⟩
theorem ye {A B:Prop}(aC:A) (h:nZ A→B:=by intro aC; (repeat (apply aj.s true true; (·simp (disch:=omega) only[go_sem,simprocAttr,al,z2]<;>with_reducible rfl))); exact aC.a):B:=h ⟨aC⟩
theorem ji {A B:Prop}(aC:A) (h:nZ A→B:=by intro aC; (repeat' first|(apply ae.s rfl; (·simp (disch:=omega) only[go_sem,simprocAttr,al,z2,z3]<;>with_reducible rfl))|(apply aj.s true true; (·simp (disch:=omega) only[go_sem,simprocAttr,al,z2,z3]<;>with_reducible rfl))|apply ae.nil|(refine aj.b6 ?_)|(apply ae.eX; (·simp (disch:=omega) only[go_sem,simprocAttr,al,z2,z3]<;>with_reducible rfl))|(apply ae.eY; (·rfl); (·simp (disch:=omega) only[go_sem,simprocAttr,al,z2,z3]<;>with_reducible rfl))|((first|apply ae.e3|apply ae.e4|apply ae.e5); (·simp (disch:=omega) only[go_sem,simprocAttr,al,z2,z3]<;>with_reducible rfl); (·simp (disch:=omega) only[go_sem,simprocAttr,al,z2,z3]<;>with_reducible rfl); (·assumption); (·omega))); exact aC.a):B:=h ⟨aC⟩
section
variable {P:Program}{env:Env}{c:a1}{anns:List I}{l:List bP}{K:Env→a1→Prop}{Rp:I→a1→Prop}{x y i cz ai:aK}{ik Mm:IntKind}{z pq:Int}{size:Nat}{rows new:List (List I)}{row:List I}{a b:List UInt8}
theorem D.bR {d:Nat}(h:ae P anns l ((d,.str (a++b))::env) c K Rp) (ab:bp env x= .str a:=by simp (disch:=omega) only[go_sem,simprocAttr]<;>with_reducible rfl) (aZ:bp env y= .str b:=by simp (disch:=omega) only[go_sem,simprocAttr]<;>with_reducible rfl) (hb:a.length+b.length≤maxLen:=by simp only[List.length_append,List.length_cons,List.length_nil,maxLen]; omega):ae P anns (⟨some d,none,.bin .add x y⟩::l) env c K Rp:=ae.V6 ab aZ hb h
theorem D.gL {T bytes t d:Nat}(h:ae P anns l ((d,.own t size (rows++new))::env) (c.cA t (.bJ T size (rows.length+new.length))) K Rp) (ab:bp env x= .own t size rows:=by simp (disch:=omega) only[go_sem,simprocAttr]<;>with_reducible rfl) (aO:c.H.tok t=some (.bJ T size rows.length):=by simp (disch:=omega) only[go_sem,simprocAttr]<;>with_reducible rfl) (aZ:rowsOf size (bp env y)=some new:=by simp only[rowsOf]<;>simp (disch:=omega) only[go_sem,simprocAttr]<;>with_reducible rfl) (hb:(rows.length+new.length)*bytes≤140737488355328:=by first|omega|(simp only[List.length_map,List.length_drop,List.length_take,List.length_append,List.length_nil,List.length_cons,maxLen]<;>omega)) (hm:rows.length+new.length≤maxLen:=by first|omega|(simp only[List.length_map,List.length_drop,List.length_take,List.length_append,List.length_nil,List.length_cons,maxLen]<;>omega)):ae P anns (⟨some d,none,.append T size bytes x y⟩::l) env c K Rp:=ae.Hj ab aO aZ hb hm h
end
end Go.bc
namespace Go.bc
open Go
inductive CR:List (List I)→List (List I)→Prop
  |nil:CR [] []
  |cons {a b:List I}{az cH:List (List I)}(h:e7 a b) (t:CR az cH):CR (a::az) (b::cH)
theorem Pure.le {P:Program}{f:FuncId}{az cH:List I}{r:I}(h:Pure P f cH r) (aH:e7 az cH):Pure P f az r:=fun H m ay ar ax cw=>h H m ay ar ax (e7.RL aH cw)
section
variable {P:Program}{aL:List bk}{cD t0:Nat}{k:List ga}{Q:Out→a1→Prop}{env:Env}{c:a1}
end
end Go.bc
namespace Go.bc.T.N
open Go Go.bc Go.Proofs
set_option maxRecDepth 1000000
abbrev aD (d:Nat) (o:bj):bP:=⟨some d,none,o⟩
abbrev bV (d j:Nat) (b:Bool) (o:bj):bP:=⟨some d,some (j,b),o⟩
abbrev lE (o:bj):bP:=⟨none,none,o⟩
abbrev cG:aK:= .c (.bool false)
abbrev c6:aK:= .c (.bool true)
abbrev aE (n:Int):aK:= .c (.int .i64 n)
abbrev be (s:List UInt8):aK:= .c (.str s)
abbrev U (d s:Nat):bP:=⟨some d,none,.hs (.t s)⟩
abbrev ci (d:Nat):bP:=⟨some d,none,.hs (.c (.bool false))⟩
abbrev l3 (d:Nat):bP:=⟨some d,none,.hs (.c (.bool true))⟩
abbrev bx (d:Nat) (x:aK):bP:=⟨some d,none,.hs x⟩
abbrev aM (d a:Nat):bP:=⟨some d,none,.load false 1 (.t a)⟩
abbrev cr (d n a:Nat):bP:=⟨some d,none,.load true n (.t a)⟩
abbrev aI (d k a:Nat):bP:=⟨some d,none,.nH k (.t a)⟩
abbrev aG (d:Nat) (o:BinOp) (x y:aK):bP:=⟨some d,none,.bin o x y⟩
abbrev bi (d f:Nat) (l:List aK):bP:=⟨some d,none,.call f l⟩
abbrev fI (d f:Nat) (l:List aK):bP:=⟨some d,none,.hz f l⟩
abbrev bD (d:Nat) (x y z:aK):bP:=⟨some d,none,.pick x y z⟩
abbrev fE (d s:Nat):bP:=⟨some d,none,.not (.t s)⟩
abbrev cL (d s:Nat):bP:=⟨some d,none,.len (.t s)⟩
abbrev cU (d n:Nat) (x y:aK):bP:=⟨some d,none,.fW n x y⟩
abbrev c5 (d j:Nat) (b:Bool) (s:Nat):bP:=⟨some d,some (j,b),.hs (.t s)⟩
abbrev bm (d j:Nat) (b:Bool) (a:Nat):bP:=⟨some d,some (j,b),.load false 1 (.t a)⟩
abbrev bl (d j:Nat) (b:Bool) (k a:Nat):bP:=⟨some d,some (j,b),.nH k (.t a)⟩
abbrev cf (d j:Nat) (b:Bool) (o:BinOp) (x y:aK):bP:=⟨some d,some (j,b),.bin o x y⟩
abbrev dN (d j:Nat) (b:Bool) (f:Nat) (l:List aK):bP:=⟨some d,some (j,b),.call f l⟩
abbrev bZ (n a:Nat) (x:aK):bP:=⟨none,none,.store n (.t a) x⟩
abbrev aR5 (x:aK):bP:=⟨none,none,.cE x⟩
abbrev ak (l:List bP) (k:bu):bu:= .seq (.region l false) k
abbrev bd (l:List bP):bu:= .seq (.region l false) .ret
abbrev aQ (a b:bu):bu:= .seq a b
abbrev b1 (l:List bP):bu:= .region l false
abbrev a8 (t:Nat) (a b:bu):bu:= .cond (.t t) a b
abbrev gp:aK:= .t 0
abbrev ls:aK:= .t 1
abbrev zQ:aK:= .t 2
abbrev fm:aK:= .t 3
abbrev gq:aK:= .t 4
abbrev eG:aK:= .t 5
abbrev dt:aK:= .t 6
abbrev dF:aK:= .t 7
abbrev dI:aK:= .t 8
abbrev eT:aK:= .t 9
abbrev fi:aK:= .t 10
abbrev dy:aK:= .t 11
abbrev dR:aK:= .t 12
abbrev dS:aK:= .t 13
abbrev fu:aK:= .t 14
abbrev dq:aK:= .t 15
abbrev fb:aK:= .t 16
abbrev eA:aK:= .t 17
abbrev gU:aK:= .t 18
abbrev eS:aK:= .t 19
abbrev gy:aK:= .t 20
abbrev fc:aK:= .t 21
abbrev fl:aK:= .t 22
abbrev fv:aK:= .t 23
abbrev fS:aK:= .t 24
abbrev ha:aK:= .t 25
abbrev fA:aK:= .t 26
abbrev gG:aK:= .t 27
abbrev fB:aK:= .t 28
abbrev hE:aK:= .t 29
abbrev jg:aK:= .t 30
abbrev gH:aK:= .t 31
abbrev jz:aK:= .t 32
abbrev ib:aK:= .t 33
abbrev lu:aK:= .t 34
abbrev jA:aK:= .t 35
abbrev ic:aK:= .t 36
abbrev j4:aK:= .t 37
abbrev ku:aK:= .t 38
abbrev lx:aK:= .t 39
abbrev kv:aK:= .t 40
abbrev mI:aK:= .t 41
abbrev lN:aK:= .t 42
abbrev jh:aK:= .t 43
abbrev mb:aK:= .t 44
abbrev mJ:aK:= .t 45
abbrev mK:aK:= .t 46
abbrev mL:aK:= .t 47
abbrev ly:aK:= .t 48
abbrev oD:aK:= .t 49
abbrev kw:aK:= .t 50
abbrev lz:aK:= .t 51
abbrev ns:aK:= .t 52
abbrev nX:aK:= .t 53
abbrev kX:aK:= .t 54
abbrev lO:aK:= .t 55
abbrev kx:aK:= .t 56
abbrev nt:aK:= .t 57
abbrev kY:aK:= .t 58
abbrev tu:aK:= .t 59
abbrev lP:aK:= .t 60
abbrev tv:aK:= .t 61
abbrev sh:aK:= .t 62
abbrev q5:aK:= .t 63
abbrev oE:aK:= .t 64
abbrev oF:aK:= .t 65
abbrev p7:aK:= .t 66
abbrev q6:aK:= .t 67
abbrev si:aK:= .t 68
abbrev q7:aK:= .t 69
abbrev p8:aK:= .t 70
abbrev q8:aK:= .t 71
abbrev tw:aK:= .t 72
abbrev sj:aK:= .t 73
abbrev tx:aK:= .t 74
abbrev v8:aK:= .t 75
abbrev zR:aK:= .t 76
abbrev sk:aK:= .t 77
abbrev CC:aK:= .t 78
abbrev wa:aK:= .t 79
abbrev xW:aK:= .t 80
abbrev xX:aK:= .t 81
abbrev wb:aK:= .t 82
abbrev sl:aK:= .t 83
abbrev xY:aK:= .t 84
abbrev wc:aK:= .t 85
abbrev uT:aK:= .t 86
abbrev CD:aK:= .t 87
abbrev we:aK:= .t 88
abbrev xZ:aK:= .t 89
abbrev zS:aK:= .t 90
abbrev wg:aK:= .t 91
abbrev Gz:aK:= .t 92
abbrev x0:aK:= .t 93
abbrev zT:aK:= .t 94
abbrev x1:aK:= .t 95
abbrev x2:aK:= .t 96
abbrev CE:aK:= .t 97
abbrev x3:aK:= .t 98
abbrev GA:aK:= .t 99
abbrev zK:aK:= .t 100
abbrev Gm:aK:= .t 101
abbrev xV:aK:= .t 102
abbrev zL:aK:= .t 103
abbrev Cw:aK:= .t 104
abbrev Cx:aK:= .t 105
abbrev zM:aK:= .t 106
abbrev Se:aK:= .t 107
abbrev Gn:aK:= .t 108
abbrev zN:aK:= .t 109
abbrev Cy:aK:= .t 110
abbrev Cz:aK:= .t 111
abbrev CA:aK:= .t 112
abbrev zO:aK:= .t 113
abbrev Gp:aK:= .t 114
abbrev zP:aK:= .t 115
abbrev Gq:aK:= .t 116
abbrev CB:aK:= .t 117
abbrev Sf:aK:= .t 118
abbrev Gr:aK:= .t 119
abbrev aJ9:aK:= .t 120
abbrev Gs:aK:= .t 121
abbrev aK0:aK:= .t 122
abbrev aK1:aK:= .t 123
abbrev Gt:aK:= .t 124
abbrev aK2:aK:= .t 125
abbrev aK3:aK:= .t 126
abbrev Sg:aK:= .t 127
abbrev aS1:aK:= .t 128
abbrev Gu:aK:= .t 129
abbrev Sh:aK:= .t 130
abbrev aK4:aK:= .t 131
abbrev Si:aK:= .t 132
abbrev Gv:aK:= .t 133
abbrev aK5:aK:= .t 134
abbrev Gw:aK:= .t 135
abbrev Gx:aK:= .t 136
abbrev Sj:aK:= .t 137
abbrev aK6:aK:= .t 138
abbrev Gy:aK:= .t 139
abbrev Sk:aK:= .t 140
abbrev Sl:aK:= .t 141
abbrev aK7:aK:= .t 142
abbrev Sm:aK:= .t 143
abbrev aK8:aK:= .t 144
abbrev Sn:aK:= .t 145
abbrev aS2:aK:= .t 146
abbrev So:aK:= .t 147
abbrev Sp:aK:= .t 148
abbrev aS3:aK:= .t 149
abbrev aK9:aK:= .t 150
abbrev aS4:aK:= .t 151
abbrev Sq:aK:= .t 152
abbrev aS5:aK:= .t 153
abbrev Sr:aK:= .t 154
abbrev aL0:aK:= .t 155
abbrev Ss:aK:= .t 156
abbrev aS6:aK:= .t 157
abbrev St:aK:= .t 158
abbrev aL1:aK:= .t 159
abbrev Su:aK:= .t 160
abbrev aS7:aK:= .t 161
abbrev Sv:aK:= .t 162
abbrev aL2:aK:= .t 163
abbrev Sw:aK:= .t 164
def IR:bu:=
 ak [ci 0] (ak [bi 7 12 [be [115,101,114,118,105,99,101,32,83,32,112,108,97,121,115,32,97,32,111,102,32,80,123,118,97,114,32,110,58,105,110,116,32,48,46,46,57,61,49,59,111,110,32,109,40,120,41,102,114,111,109,32,98,123,110,61,120,59,125,111,102,102,101,114,32,107,40,110,43,49,41,116,111,32,98,32,119,104,101,114,101,32,110,60,53,59,125]],U 6 7,aD 8 (.extract 0 dt),aD 9 (.extract 1 dt),aD 10 (.extract 2 dt),aD 1 (.alloc 27 [.str [],.str [],.str [],.aV,.aV,.aV]),bZ 6 1 dI,U 2 9,U 3 10] (ak [cr 12 6 1,bi 13 18 [dR],U 11 13,aD 14 (.extract 0 dy),aD 15 (.extract 1 dy),U 4 14,U 5 15] (bd [U 16 3,aG 17 .eql fb (aE 0),U 18 17,c5 19 18 true 5,cf 20 18 true .eql eS (aE 0),bD 21 gU gy cG,U 22 21,bl 23 22 true 3 1,bm 24 22 true 23,bV 25 22 true (.len fS),cf 26 22 true .eql ha (aE 1),bD 27 fl fA cG,U 28 27,bl 29 28 true 4 1,bm 30 28 true 29,bV 31 28 true (.len jg),cf 32 28 true .eql gH (aE 1),bD 33 fB jz cG,U 34 33,bl 35 34 true 5 1,bm 36 34 true 35,bV 37 34 true (.len ic),cf 38 34 true .eql j4 (aE 1),bD 39 lu ku cG,U 40 39,bl 41 40 true 5 1,bm 42 40 true 41,bV 43 40 true (.fW 4 lN (aE 0)),bl 44 40 true 3 43,bm 45 40 true 44,bV 46 40 true (.len mJ),cf 47 40 true .eql mK (aE 1),bD 48 kv mL cG,U 49 48,bV 50 49 true (.load true 6 ls),dN 51 49 true 16 [kw],bD 52 oD lz cG,U 53 52,bV 54 53 true (.load true 6 ls),bV 55 53 true (.load true 6 ls),dN 56 53 true 22 [kX,lO],bD 57 nX kx cG,U 58 57,c5 59 58 true 4,cf 60 58 true .eql tu (be [115,101,114,118,105,99,101,32,83,32,112,108,97,121,115,32,97,32,111,102,32,80,32,123,10,9,118,97,114,32,110,58,32,105,110,116,32,48,32,46,46,32,57,32,61,32,49,59,10,9,111,110,32,109,40,120,41,32,102,114,111,109,32,98,32,123,10,9,9,110,32,61,32,120,59,10,9,125,10,9,111,102,102,101,114,32,107,40,110,32,43,32,49,41,32,116,111,32,98,32,119,104,101,114,101,32,110,32,60,32,53,59,10,125,10]),bD 61 kY lP cG,U 0 61])))
def Pr:List bk:=[.t 0]
theorem Db:bY Tryz.prog Tryz.f11 0 IR Pr=true:=by kernel_rfl
def pI:bu:=
 ak [aD 2 (.alloc 27 [.str [],.str [],.str [],.aV,.aV,.aV]),aD 3 (.alloc 3 [.int .i64 0]),aD 4 (.alloc 28 [.int .i64 0])] (ak [U 8 0,bi 9 30 [dI],U 7 9,aD 10 (.extract 0 dF),aD 11 (.extract 1 dF),aD 12 (.extract 2 dF),U 5 10,lE (.fh 3 [2,4] 1 fm dy),lE (.fh 4 [2,3] 1 gq dR)] (aQ (ak [aD 13 (.hr 4 false 1 gq),aG 14 .neq dS (aE 0)] (a8 14 (aQ (.region [aD 15 (.build [.str [],.str [],.str [],.aV,.aV,.aV] []),aD 16 (.hr 3 false 1 fm),aD 17 (.hr 4 false 1 gq),lE (.fh 2 [3,4] 6 zQ dq),lE (.fh 3 [2,4] 1 fm fb),lE (.fh 4 [2,3] 1 gq eA)] true) .ret) .skip)) (aQ (.rv 18 31 [zQ,fm,gq]) (ak [U 19 5,U 20 0,aD 21 (.fQ gy),aD 22 (.build [.aV,.int .i64 0] [(0,1,eS),(1,1,fc)]),aD 23 (.box 83 fl),U 6 23] (ak [U 24 6,bi 25 32 [fS],lE (.fh 2 [3,4] 6 zQ ha)] (aQ (ak [cr 26 6 2,bi 27 16 [fA],fE 28 27] (a8 28 (bd [aD 29 (.build [.str [],.str [],.str [],.aV,.aV,.aV] []),lE (.fh 2 [3,4] 6 zQ hE),lE (.fh 3 [2,4] 1 fm (aE 0)),lE (.fh 4 [2,3] 1 gq (aE 6))]) .skip)) (bd [cr 30 6 2,lE (.fh 2 [3,4] 6 zQ jg),lE (.fh 3 [2,4] 1 fm (aE 0)),lE (.fh 4 [2,3] 1 gq (aE 0))])))))))
def Cc:List bk:=[.cell true 6 2,.cell false 1 3,.cell false 1 4]
theorem Dc:bY Tryz.prog Tryz.f12 1 pI Cc=true:=by kernel_rfl
def oQ:bu:=
 ak [aD 1 (.box 27 gp),ci 2] (aQ (ak [aI 3 0 1,aM 4 3,bi 5 45 [gq],fE 6 5,U 7 6,bl 8 7 false 1 1,bm 9 7 false 8,dN 10 7 false 45 [eT],bV 11 7 false (.not fi),bD 12 dF c6 dy,U 13 12,bl 14 13 false 2 1,bm 15 13 false 14,dN 16 13 false 45 [dq],bV 17 13 false (.not fb),bD 18 dS c6 eA,U 19 18,bl 20 19 false 3 1,bm 21 19 false 20,bV 22 19 false (.len fc),cf 23 19 false .gtr fl (aE 12),bD 24 eS c6 fv,U 25 24,bl 26 25 false 4 1,bm 27 25 false 26,bV 28 25 false (.len gG),cf 29 25 false .gtr fB (aE 40),bD 30 ha c6 hE,U 31 30,bl 32 31 false 5 1,bm 33 31 false 32,bV 34 31 false (.len ib),cf 35 31 false .gtr lu (aE 40),bD 36 gH c6 jA] (a8 36 (bd [ci 2]) .skip)) (bd [aI 37 3 1,aM 38 37,bi 39 46 [ku,.c (.fn 47 [])],U 40 39,bl 41 40 true 4 1,bm 42 40 true 41,dN 43 40 true 48 [lN,.c (.fn 49 [])],bD 44 kv jh cG,U 45 44,bl 46 45 true 5 1,bm 47 45 true 46,dN 48 45 true 50 [mL,.c (.fn 51 [])],bD 49 mJ ly cG,U 50 49,bV 51 50 true (.load true 6 ls),dN 52 50 true 52 [lz],bV 53 50 true (.fQ ns),cf 54 50 true .leq nX (aE 8000),bD 55 kw kX cG,U 2 55]))
def P7:List bk:=[.t 2]
theorem UG:bY Tryz.prog Tryz.f16 1 oQ P7=true:=by kernel_rfl
def ve:bu:=
 ak [aD 1 (.box 27 gp),bx 2 (be []),bx 3 (aE 0)] (aQ (ak [cr 4 6 1,bi 5 16 [gq],fE 6 5] (a8 6 (bd [bx 2 (be []),bx 3 (aE 1)]) .skip)) (bd [cr 7 6 1,bi 8 52 [dF],U 2 8,bx 3 (aE 0)]))
def Qo:List bk:=[.t 2,.t 3]
theorem UY:bY Tryz.prog Tryz.f18 1 ve Qo=true:=by kernel_rfl
def JV:bu:=
 ak [aD 2 (.box 27 gp),aD 3 (.box 27 ls),ci 4] (bd [aI 5 0 2,aM 6 5,aI 7 0 3,aM 8 7,aG 9 .eql dt dI,U 10 9,bl 11 10 true 1 2,bm 12 10 true 11,bl 13 10 true 1 3,bm 14 10 true 13,cf 15 10 true .eql dR fu,bD 16 fi dq cG,U 17 16,bl 18 17 true 2 2,bm 19 17 true 18,bl 20 17 true 2 3,bm 21 17 true 20,cf 22 17 true .eql eS fc,bD 23 eA fl cG,U 24 23,bl 25 24 true 3 2,bm 26 24 true 25,bl 27 24 true 3 3,bm 28 24 true 27,dN 29 24 true 63 [fA,fB],bD 30 fS hE cG,U 31 30,bl 32 31 true 4 2,bm 33 31 true 32,bl 34 31 true 4 3,bm 35 31 true 34,dN 36 31 true 64 [ib,jA,.c (.fn 65 [])],bD 37 gH ic cG,U 38 37,bl 39 38 true 5 2,bm 40 38 true 39,bl 41 38 true 5 3,bm 42 38 true 41,dN 43 38 true 69 [kv,lN,.c (.fn 70 [])],bD 44 ku jh cG,U 4 44])
def QB:List bk:=[.t 4]
theorem Va:bY Tryz.prog Tryz.f22 2 JV QB=true:=by kernel_rfl
def ry:bu:=
 ak [bx 2 (.c .aV),bx 3 (aE 0),bx 4 (aE 0)] (aQ (ak [U 11 0,aD 12 (.fQ dy),aG 13 .gtr dR (aE 8000)] (a8 13 (bd [bx 2 (.c .aV),bx 3 (aE 8000),bx 4 (aE 6)]) .skip)) (ak [U 14 0,aD 15 (.build [.str [],.int .i64 0] [(0,1,fu)]),aD 16 (.box 149 dq),U 5 16] (aQ (ak [U 17 5,bi 18 78 [eA]] (.block 0 (.loop (aQ (ak [U 19 5,aD 20 (.cE eS),aI 21 1 20,aM 22 21,U 23 0,aD 24 (.fQ fv),aG 25 .lss fl fS] (a8 25 .skip (.exit 0))) (aQ (.block 1 (ak [U 28 5,aD 29 (.o4 79 [fB]),U 6 29] (aQ (ak [U 30 0,U 31 5,aD 32 (.cE gH),aI 33 1 32,aM 34 33,aD 35 (.eJ jg lu),U 7 35] (.block 2 (ak [U 37 7,bi 38 80 [j4],U 36 38] (a8 36 (b1 [U 39 5,aD 40 (.o4 81 [lx]),U 6 40]) (ak [U 42 7,bi 43 82 [lN],U 41 43] (a8 41 (b1 [U 44 5,aD 45 (.o4 83 [mb]),U 6 45]) (ak [U 47 7,aG 48 .eql mL (.c (.int .u8 34)),U 46 48] (a8 46 (b1 [U 49 5,aD 50 (.o4 84 [oD]),U 6 50]) .skip)))))))) (ak [U 51 5,aD 52 (.cE lz),aI 53 1 52,aM 54 53,U 8 54] (ak [U 56 6,aD 57 (.fw kx []),U 55 57,aD 58 (.extract 0 lO),aD 59 (.extract 1 lO),aD 9 (.alloc 152 [.int .i64 0,.str [],.int .i64 0,.int .i64 0]),bZ 4 9 kY,U 10 59] (aQ (ak [U 60 10,aG 61 .neq lP (aE 0)] (a8 61 (bd [U 62 8,U 63 10,bx 2 (.c .aV),U 3 62,U 4 63]) .skip)) (ak [U 64 8,aI 65 3 9,bZ 1 65 oE] (b1 [U 66 2,cr 67 4 9,aD 68 (.dA 152 4 1 [.int .i64 0,.str [],.int .i64 0,.int .i64 0] [(0,q6)]),aD 69 (.append 152 4 40 p7 si),U 2 69])))))))) (b1 [U 26 5,bi 27 78 [fA]])))))) (bd [U 70 2,U 2 70,bx 3 (aE 0),bx 4 (aE 0)]))))
def QE:List bk:=[.t 2,.t 3,.t 4]
theorem Vd:bY Tryz.prog Tryz.f30 1 ry QE=true:=by kernel_rfl
def rz:bu:=
 ak [aD 2 (.alloc 27 [.str [],.str [],.str [],.aV,.aV,.aV])] (ak [aD 3 (.alloc 27 [.str [],.str [],.str [],.aV,.aV,.aV])] (ak [U 4 0,bi 5 85 [gq,be [115,101,114,118,105,99,101]]] (ak [U 6 0,bi 7 86 [dt],aI 8 0 3,bZ 1 8 dF] (ak [U 9 0,bi 10 85 [eT,be [112,108,97,121,115]]] (ak [U 11 0,bi 12 86 [dy],aI 13 1 3,bZ 1 13 dR] (ak [U 14 0,bi 15 85 [fu,be [111,102]]] (ak [U 16 0,bi 17 86 [fb],aI 18 2 3,bZ 1 18 eA] (ak [U 19 0,bi 20 85 [eS,be [123]]] (aQ (.block 0 (.loop (aQ (ak [U 21 0,bi 22 87 [fc,be [118,97,114]]] (a8 22 .skip (.exit 0))) (.block 1 (.region [aI 23 3 3,aD 24 (.hr 3 false 1 fv),U 25 0,aD 26 (.hM [3] 88 [ha]),aD 27 (.dA 106 7 1 [.str [],.int .i64 0,.int .i64 0,.int .i64 0,.int .i64 0,.int .i64 0,.str []] [(0,fA)]),aD 28 (.append 106 7 72 fS gG),aI 29 3 3,bZ 1 29 fB] true))))) (aQ (.block 2 (.loop (aQ (ak [U 30 0,bi 31 87 [jg,be [125]],fE 32 31] (a8 32 .skip (.exit 2))) (.block 3 (ak [U 33 0,bi 34 87 [ib,be [111,110]]] (a8 34 (.region [aI 35 4 3,aD 36 (.hr 3 false 1 jA),U 37 0,aD 38 (.hM [3] 89 [j4]),aD 39 (.dA 109 4 1 [.str [],.str [],.aV,.aV] [(0,ku)]),aD 40 (.append 109 4 80 ic lx),aI 41 4 3,bZ 1 41 kv] true) (ak [U 42 0,bi 43 85 [lN,be [111,102,102,101,114]]] (.region [aI 44 5 3,aD 45 (.hr 3 false 1 mb),U 46 0,aD 47 (.hM [3] 90 [mK]),aD 48 (.dA 74 4 1 [.str [],.str [],.aV,.aV] [(0,mL)]),aD 49 (.append 74 4 80 mJ ly),aI 50 5 3,bZ 1 50 oD] true)))))))) (aQ (ak [U 51 0,aD 52 (.cE lz),aI 53 0 52,aM 54 53,cL 55 54,aG 56 .gtr lO (aE 0)] (a8 56 (b1 [U 57 0,bi 58 91 [nt,aE 3]]) .skip)) (bd [cr 59 6 3,bZ 6 2 tu]))))))))))))
def QF:List bk:=[.cell true 6 2]
theorem Ve:bY Tryz.prog Tryz.f32 1 rz QF=true:=by kernel_rfl
def AN:bu:=
 ak [aD 3 (.box 113 ls),ci 4] (bd [U 5 0,aD 6 (.ng 104 [fm]),bi 7 103 [eG,dt],fE 8 7,U 4 8])
def QM:List bk:=[.t 4]
theorem Vl:bY Tryz.prog Tryz.f46 2 AN QM=true:=by kernel_rfl
def J4:bu:=
 ak [aD 1 (.box 106 gp),ci 2] (ak [aI 4 1 1,cr 5 3 4,aD 3 (.alloc 91 [.int .i64 0,.int .i64 0,.int .i64 0]),bZ 3 3 eG] (aQ (.block 0 (ak [aI 7 0 1,aM 8 7,bi 9 45 [dI],fE 10 9,U 11 10,bl 12 11 false 1 3,bm 13 11 false 12,dN 14 11 false 105 [dS],bV 15 11 false (.not fu),bD 16 dy c6 dq,U 17 16,bl 18 17 false 2 3,bm 19 17 false 18,dN 20 17 false 105 [eS],bV 21 17 false (.not gy),bD 22 eA c6 fc,U 6 22] (a8 6 (bd [ci 2]) (ak [aI 24 0 3,aM 25 24,aG 26 .neq ha (aE 1),U 27 26,bl 28 27 true 0 3,bm 29 27 true 28,cf 30 27 true .neq hE (aE 2),c5 31 27 true 30,bl 32 31 false 1 3,bm 33 31 false 32,cf 34 31 false .lss ib (aE 0),bV 35 27 true (.pick gH c6 lu),c5 36 27 true 35,bl 37 36 false 2 3,bm 38 36 false 37,cf 39 36 false .lss ku (aE 0),bV 40 27 true (.pick ic c6 lx),bD 41 gG kv cG,U 23 41] (a8 23 (bd [ci 2]) .skip))))) (aQ (ak [aI 42 4 1,aI 43 0 42,aM 44 43] (.block 1 (ak [aG 46 .eql mb (aE 1),U 45 46] (a8 45 (bd [aI 47 4 1,aI 48 1 47,aM 49 48,bi 50 105 [oD],U 51 50,bl 52 51 true 4 1,bl 53 51 true 2 52,bm 54 51 true 53,cf 55 51 true .eql kX (be []),bD 56 lz lO cG,U 2 56]) (ak [aG 58 .eql mb (aE 2),U 57 58] (a8 57 (bd [aI 59 4 1,aI 60 1 59,aM 61 60,aG 62 .eql tv (aE 0),U 63 62,bl 64 63 true 4 1,bl 65 63 true 2 64,bm 66 63 true 65,dN 67 63 true 106 [p7],bD 68 q5 q6 cG,U 2 68]) .skip)))))) (bd [ci 2]))))
def QN:List bk:=[.t 2]
theorem Vm:bY Tryz.prog Tryz.f47 1 J4 QN=true:=by kernel_rfl
def wN:bu:=
 ak [aD 3 (.box 115 ls),ci 4] (bd [U 5 0,aD 6 (.ng 108 [fm]),bi 7 107 [eG,dt],fE 8 7,U 4 8])
def QO:List bk:=[.t 4]
theorem Vn:bY Tryz.prog Tryz.f48 2 wN QO=true:=by kernel_rfl
def J5:bu:=
 ak [aD 1 (.box 109 gp),ci 2] (ak [bx 3 (.c (.fn 109 []))] (bd [aI 4 0 1,aM 5 4,bi 6 111 [eG],U 7 6,bl 8 7 true 1 1,bm 9 7 true 8,dN 10 7 true 45 [eT],bD 11 dF fi cG,U 12 11,bl 13 12 true 2 1,bm 14 12 true 13,bV 15 12 true (.len fu),cf 16 12 true .leq dq (aE 4),bD 17 dR fb cG,U 18 17,bl 19 18 true 2 1,bm 20 18 true 19,dN 21 18 true 112 [gy,.c (.fn 45 [])],bD 22 gU fc cG,U 23 22,bl 24 23 true 3 1,bm 25 23 true 24,dN 26 23 true 113 [ha,.c (.fn 114 [])],bD 27 fv fA cG,U 28 27,bl 29 28 true 3 1,bm 30 28 true 29,c5 31 28 true 3,dN 32 28 true 113 [jg,gH],bD 33 fB jz cG,U 2 33]))
def QP:List bk:=[.t 2]
theorem Vo:bY Tryz.prog Tryz.f49 1 J5 QP=true:=by kernel_rfl
def AO:bu:=
 ak [aD 3 (.box 117 ls),ci 4] (bd [U 5 0,aD 6 (.ng 116 [fm]),bi 7 115 [eG,dt],fE 8 7,U 4 8])
def QQ:List bk:=[.t 4]
theorem Vp:bY Tryz.prog Tryz.f50 2 AO QQ=true:=by kernel_rfl
def J6:bu:=
 ak [aD 1 (.box 74 gp),ci 2] (ak [bx 3 (.c (.fn 117 []))] (ak [aI 5 2 1,aM 6 5,aI 7 3 1,aM 8 7,aD 9 (.dA 72 1 2 [.aV] [(0,dt),(1,dI)]),bi 10 119 [eT],U 4 10] (bd [aI 11 0 1,aM 12 11,bi 13 111 [dR],U 14 13,bl 15 14 true 1 1,bm 16 14 true 15,dN 17 14 true 45 [fb],bD 18 fu eA cG,U 19 18,bl 20 19 true 2 1,bm 21 19 true 20,bV 22 19 true (.len fc),cf 23 19 true .leq fl (aE 4),bD 24 eS fv cG,U 25 24,bl 26 25 true 3 1,bm 27 25 true 26,bV 28 25 true (.len gG),cf 29 25 true .leq fB (aE 1),bD 30 ha hE cG,U 31 30,c5 32 31 true 4,dN 33 31 true 120 [jz,.c (.fn 121 [])],bD 34 gH ib cG,U 35 34,c5 36 35 true 4,c5 37 35 true 3,dN 38 35 true 120 [ic,j4],bD 39 jA ku cG,U 2 39])))
def QR:List bk:=[.t 2]
theorem Vq:bY Tryz.prog Tryz.f51 1 J6 QR=true:=by kernel_rfl
def rA:bu:=
 ak [aD 1 (.box 27 gp),bx 2 (be [])] (ak [aD 12 (.build [.dQ (.pointer none),.aV,.int .i64 0] []),aD 13 (.box 182 dR),U 3 13] (ak [U 14 3,aI 15 0 1,aM 16 15,aI 17 1 1,aM 18 17,aI 19 2 1,aM 20 19,aD 21 (.dA 9 1 7 [.str []] [(0,be [115,101,114,118,105,99,101,32]),(1,fb),(2,be [32,112,108,97,121,115,32]),(3,gU),(4,be [32,111,102,32]),(5,gy),(6,be [32,123])]),bi 22 122 [fu,fc]] (ak [U 23 3,aD 24 (.cE fv),aI 25 2 24,bZ 1 25 (aE 1)] (aQ (ak [aI 26 3 1,aM 27 26,cL 28 27,bx 29 (aE 0)] (.block 0 (.loop (ak [aG 30 .lss hE fB] (aQ (a8 30 .skip (.exit 0)) (aQ (.block 1 (ak [cU 31 7 gG hE,cr 32 7 31,aD 5 (.alloc 106 [.str [],.int .i64 0,.int .i64 0,.int .i64 0,.int .i64 0,.int .i64 0,.str []]),bZ 7 5 jz] (ak [bx 6 (be [105,110,116,32])] (aQ (ak [aI 33 1 5,aI 34 0 33,aM 35 34,aG 36 .eql jA (aE 2)] (a8 36 (b1 [bx 6 (be [116,101,120,116,32])]) .skip)) (.region [U 37 3,aI 38 0 5,aM 39 38,U 40 6,aI 41 1 5,aI 42 1 41,aM 43 42,fI 44 123 [jh],aI 45 1 5,aI 46 2 45,aM 47 46,fI 48 123 [mL],aI 49 4 5,cr 50 3 49,fI 51 124 [kw],aD 52 (.dA 9 1 10 [.str []] [(0,be [118,97,114,32]),(1,lx),(2,be [58,32]),(3,kv),(4,mb),(5,be [32,46,46,32]),(6,ly),(7,be [32,61,32]),(8,lz),(9,be [59])]),bi 53 122 [j4,ns]] true))))) (b1 [aG 54 .add hE (aE 1),U 29 54]))))))) (aQ (ak [aI 55 4 1,aM 56 55,cL 57 56,bx 58 (aE 0)] (.block 2 (.loop (ak [aG 59 .lss kY nt] (aQ (a8 59 .skip (.exit 2)) (aQ (.block 3 (ak [cU 60 4 kx kY,cr 61 4 60,aD 8 (.alloc 109 [.str [],.str [],.aV,.aV]),bZ 4 8 tv] (aQ (.region [U 62 3,aI 63 0 8,aM 64 63,aI 65 2 8,aM 66 65,fI 67 125 [p7,be [44,32]],aI 68 1 8,aM 69 68,aD 70 (.dA 9 1 7 [.str []] [(0,be [111,110,32]),(1,oE),(2,be [40]),(3,q6),(4,be [41,32,102,114,111,109,32]),(5,q7),(6,be [32,123])]),bi 71 122 [sh,p8]] true) (ak [U 72 3,aI 73 3 8,aM 74 73,bi 75 126 [tw,tx]] (b1 [U 76 3,aD 77 (.dA 9 1 1 [.str []] [(0,be [125])]),bi 78 122 [zR,sk]]))))) (b1 [aG 79 .add kY (aE 1),U 58 79]))))))) (aQ (ak [aI 80 5 1,aM 81 80,cL 82 81,bx 83 (aE 0)] (.block 4 (.loop (ak [aG 84 .lss sl wb] (aQ (a8 84 .skip (.exit 4)) (aQ (.block 5 (ak [cU 85 4 xX sl,cr 86 4 85,aD 10 (.alloc 74 [.str [],.str [],.aV,.aV]),bZ 4 10 uT] (ak [bx 11 (be [])] (aQ (ak [aI 87 3 10,aM 88 87,cL 89 88,aG 90 .gtr xZ (aE 0)] (a8 90 (b1 [aI 91 3 10,aM 92 91,cU 93 6 Gz (aE 0),cr 94 6 93,bi 95 127 [zT],aG 96 .add (be [32,119,104,101,114,101,32]) x1,U 11 96]) .skip)) (.region [U 97 3,aI 98 0 10,aM 99 98,aI 100 2 10,aM 101 100,fI 102 128 [Gm],aI 103 1 10,aM 104 103,U 105 11,aD 106 (.dA 9 1 8 [.str []] [(0,be [111,102,102,101,114,32]),(1,GA),(2,be [40]),(3,xV),(4,be [41,32,116,111,32]),(5,Cw),(6,Cx),(7,be [59])]),bi 107 122 [CE,zM]] true))))) (b1 [aG 108 .add sl (aE 1),U 83 108]))))))) (ak [U 109 3,aD 110 (.cE zN),aI 111 2 110,bZ 1 111 (aE 0)] (ak [U 112 3,aD 113 (.dA 9 1 1 [.str []] [(0,be [125])]),bi 114 122 [CA,zO]] (bd [U 115 3,aD 116 (.cE zP),aI 117 0 116,bi 118 129 [CB],U 2 118])))))))))
def QS:List bk:=[.t 2]
theorem Vr:bY Tryz.prog Tryz.f52 1 rA QS=true:=by kernel_rfl
def Kg:bu:=
 ak [ci 4] (aQ (ak [U 6 0,cL 7 6,U 8 1,cL 9 8,aG 10 .neq dF eT] (a8 10 (bd [ci 4]) .skip)) (aQ (ak [U 11 0,cL 12 11,bx 13 (aE 0)] (.block 0 (.loop (ak [aG 14 .lss dS dR] (aQ (a8 14 .skip (.exit 0)) (aQ (.block 1 (ak [U 15 13,U 5 15] (aQ (.region [U 16 0,U 17 5,cU 18 7 fb eA,cr 19 7 18,U 20 1,U 21 5,cU 22 7 gy fc,cr 23 7 22,aD 24 (.oS true 106 [.s,.i .i64,.i .i64,.i .i64,.i .i64,.i .i64,.s] eS fv)] true) (a8 24 (bd [ci 4]) .skip)))) (b1 [aG 25 .add dS (aE 1),U 13 25]))))))) (bd [l3 4])))
def Q3:List bk:=[.t 4]
theorem VB:bY Tryz.prog Tryz.f63 2 Kg Q3=true:=by kernel_rfl
def Kh:bu:=
 ak [ci 6] (aQ (ak [U 10 0,cL 11 10,U 12 1,cL 13 12,aG 14 .neq dy dS] (a8 14 (bd [ci 6]) .skip)) (aQ (ak [U 15 0,cL 16 15,bx 17 (aE 0)] (.block 0 (.loop (ak [aG 18 .lss eA fb] (aQ (a8 18 .skip (.exit 0)) (aQ (.block 1 (ak [U 19 17,cU 20 4 dq eA,cr 21 4 20,aD 8 (.alloc 109 [.str [],.str [],.aV,.aV]),U 7 19,bZ 4 8 fc] (ak [U 22 1,U 23 7,cU 24 4 fl fv,cr 25 4 24,aD 9 (.alloc 109 [.str [],.str [],.aV,.aV]),bZ 4 9 ha] (ak [U 26 2,cr 27 4 8,cr 28 4 9,aD 29 (.fw fA [gG,fB]),fE 30 29] (a8 30 (bd [ci 6]) .skip))))) (b1 [aG 31 .add eA (aE 1),U 17 31]))))))) (bd [l3 6])))
def Q4:List bk:=[.t 6]
theorem VC:bY Tryz.prog Tryz.f64 3 Kh Q4=true:=by kernel_rfl
def Ki:bu:=
 ak [aD 2 (.box 109 gp),aD 3 (.box 109 ls),ci 4] (bd [aI 5 0 2,aM 6 5,aI 7 0 3,aM 8 7,aG 9 .eql dt dI,U 10 9,bl 11 10 true 1 2,bm 12 10 true 11,bl 13 10 true 1 3,bm 14 10 true 13,cf 15 10 true .eql dR fu,bD 16 fi dq cG,U 17 16,bl 18 17 true 2 2,bm 19 17 true 18,bl 20 17 true 2 3,bm 21 17 true 20,dN 22 17 true 66 [eS,fc],bD 23 eA fl cG,U 24 23,bl 25 24 true 3 2,bm 26 24 true 25,bl 27 24 true 3 3,bm 28 24 true 27,dN 29 24 true 67 [fA,fB,.c (.fn 68 [])],bD 30 fS hE cG,U 4 30])
def Q5:List bk:=[.t 4]
theorem VD:bY Tryz.prog Tryz.f65 2 Ki Q5=true:=by kernel_rfl
def Kj:bu:=
 ak [ci 4] (aQ (ak [U 6 0,cL 7 6,U 8 1,cL 9 8,aG 10 .neq dF eT] (a8 10 (bd [ci 4]) .skip)) (aQ (ak [U 11 0,cL 12 11,bx 13 (aE 0)] (.block 0 (.loop (ak [aG 14 .lss dS dR] (aQ (a8 14 .skip (.exit 0)) (aQ (.block 1 (ak [U 15 13,U 5 15] (aQ (.region [U 16 0,U 17 5,cU 18 1 fb eA,aM 19 18,U 20 1,U 21 5,cU 22 1 gy fc,aM 23 22,aG 24 .neq eS fv] true) (a8 24 (bd [ci 4]) .skip)))) (b1 [aG 25 .add dS (aE 1),U 13 25]))))))) (bd [l3 4])))
def Q6:List bk:=[.t 4]
theorem VE:bY Tryz.prog Tryz.f66 2 Kj Q6=true:=by kernel_rfl
def Kk:bu:=
 ak [ci 6] (aQ (ak [U 10 0,cL 11 10,U 12 1,cL 13 12,aG 14 .neq dy dS] (a8 14 (bd [ci 6]) .skip)) (aQ (ak [U 15 0,cL 16 15,bx 17 (aE 0)] (.block 0 (.loop (ak [aG 18 .lss eA fb] (aQ (a8 18 .skip (.exit 0)) (aQ (.block 1 (ak [U 19 17,cU 20 11 dq eA,cr 21 11 20,aD 8 (.alloc 133 [.int .i64 0,.str [],.int .i64 0,.str [],.str [],.str [],.int .i64 0,.aV,.int .i64 0,.aV,.aV]),U 7 19,bZ 11 8 fc] (ak [U 22 1,U 23 7,cU 24 11 fl fv,cr 25 11 24,aD 9 (.alloc 133 [.int .i64 0,.str [],.int .i64 0,.str [],.str [],.str [],.int .i64 0,.aV,.int .i64 0,.aV,.aV]),bZ 11 9 ha] (ak [U 26 2,cr 27 11 8,cr 28 11 9,aD 29 (.fw fA [gG,fB]),fE 30 29] (a8 30 (bd [ci 6]) .skip))))) (b1 [aG 31 .add eA (aE 1),U 17 31]))))))) (bd [l3 6])))
def Q7:List bk:=[.t 6]
theorem VF:bY Tryz.prog Tryz.f67 3 Kk Q7=true:=by kernel_rfl
def Kl:bu:=
 ak [aD 2 (.box 133 gp),aD 3 (.box 133 ls),ci 4] (bd [aI 5 0 2,aM 6 5,aI 7 0 3,aM 8 7,aG 9 .eql dt dI,U 10 9,bl 11 10 true 1 2,bm 12 10 true 11,bl 13 10 true 1 3,bm 14 10 true 13,cf 15 10 true .eql dR fu,bD 16 fi dq cG,U 17 16,bl 18 17 true 8 2,bm 19 17 true 18,bl 20 17 true 8 3,bm 21 17 true 20,cf 22 17 true .eql eS fc,bD 23 eA fl cG,U 24 23,bl 25 24 true 2 2,bV 26 24 true (.load true 6 ha),bl 27 24 true 2 3,bV 28 24 true (.load true 6 gG),dN 29 24 true 72 [fA,fB],bD 30 fS hE cG,U 31 30,bl 32 31 true 9 2,bm 33 31 true 32,bl 34 31 true 9 3,bm 35 31 true 34,dN 36 31 true 67 [ib,jA,.c (.fn 68 [])],bD 37 gH ic cG,U 38 37,bl 39 38 true 10 2,bm 40 38 true 39,bl 41 38 true 10 3,bm 42 38 true 41,dN 43 38 true 67 [kv,lN,.c (.fn 68 [])],bD 44 ku jh cG,U 4 44])
def Q8:List bk:=[.t 4]
theorem VG:bY Tryz.prog Tryz.f68 2 Kl Q8=true:=by kernel_rfl
def Km:bu:=
 ak [ci 6] (aQ (ak [U 10 0,cL 11 10,U 12 1,cL 13 12,aG 14 .neq dy dS] (a8 14 (bd [ci 6]) .skip)) (aQ (ak [U 15 0,cL 16 15,bx 17 (aE 0)] (.block 0 (.loop (ak [aG 18 .lss eA fb] (aQ (a8 18 .skip (.exit 0)) (aQ (.block 1 (ak [U 19 17,cU 20 4 dq eA,cr 21 4 20,aD 8 (.alloc 74 [.str [],.str [],.aV,.aV]),U 7 19,bZ 4 8 fc] (ak [U 22 1,U 23 7,cU 24 4 fl fv,cr 25 4 24,aD 9 (.alloc 74 [.str [],.str [],.aV,.aV]),bZ 4 9 ha] (ak [U 26 2,cr 27 4 8,cr 28 4 9,aD 29 (.fw fA [gG,fB]),fE 30 29] (a8 30 (bd [ci 6]) .skip))))) (b1 [aG 31 .add eA (aE 1),U 17 31]))))))) (bd [l3 6])))
def Q9:List bk:=[.t 6]
theorem VH:bY Tryz.prog Tryz.f69 3 Km Q9=true:=by kernel_rfl
def Kn:bu:=
 ak [aD 2 (.box 74 gp),aD 3 (.box 74 ls),ci 4] (bd [aI 5 0 2,aM 6 5,aI 7 0 3,aM 8 7,aG 9 .eql dt dI,U 10 9,bl 11 10 true 1 2,bm 12 10 true 11,bl 13 10 true 1 3,bm 14 10 true 13,cf 15 10 true .eql dR fu,bD 16 fi dq cG,U 17 16,bl 18 17 true 2 2,bm 19 17 true 18,bl 20 17 true 2 3,bm 21 17 true 20,dN 22 17 true 71 [eS,fc,.c (.fn 72 [])],bD 23 eA fl cG,U 24 23,bl 25 24 true 3 2,bm 26 24 true 25,bl 27 24 true 3 3,bm 28 24 true 27,dN 29 24 true 71 [fA,fB,.c (.fn 72 [])],bD 30 fS hE cG,U 4 30])
def Rb:List bk:=[.t 4]
theorem VI:bY Tryz.prog Tryz.f70 2 Kn Rb=true:=by kernel_rfl
def AQ:bu:=
 ak [ci 6] (aQ (ak [U 10 0,cL 11 10,U 12 1,cL 13 12,aG 14 .neq dy dS] (a8 14 (bd [ci 6]) .skip)) (aQ (ak [U 15 0,cL 16 15,bx 17 (aE 0)] (.block 0 (.loop (ak [aG 18 .lss eA fb] (aQ (a8 18 .skip (.exit 0)) (aQ (.block 1 (ak [U 19 17,cU 20 6 dq eA,cr 21 6 20,aD 8 (.alloc 131 [.int .i64 0,.str [],.str [],.str [],.int .i64 0,.aV]),U 7 19,bZ 6 8 fc] (ak [U 22 1,U 23 7,cU 24 6 fl fv,cr 25 6 24,aD 9 (.alloc 131 [.int .i64 0,.str [],.str [],.str [],.int .i64 0,.aV]),bZ 6 9 ha] (ak [U 26 2,cr 27 6 8,cr 28 6 9,aD 29 (.fw fA [gG,fB]),fE 30 29] (a8 30 (bd [ci 6]) .skip))))) (b1 [aG 31 .add eA (aE 1),U 17 31]))))))) (bd [l3 6])))
def Rc:List bk:=[.t 6]
theorem VJ:bY Tryz.prog Tryz.f71 3 AQ Rc=true:=by kernel_rfl
def Ko:bu:=
 ak [aD 2 (.box 131 gp),aD 3 (.box 131 ls),ci 4] (bd [aI 5 0 2,aM 6 5,aI 7 0 3,aM 8 7,aG 9 .eql dt dI,U 10 9,bl 11 10 true 1 2,bm 12 10 true 11,bl 13 10 true 1 3,bm 14 10 true 13,cf 15 10 true .eql dR fu,bD 16 fi dq cG,U 17 16,bl 18 17 true 2 2,bm 19 17 true 18,bl 20 17 true 2 3,bm 21 17 true 20,cf 22 17 true .eql eS fc,bD 23 eA fl cG,U 24 23,bl 25 24 true 3 2,bm 26 24 true 25,bl 27 24 true 3 3,bm 28 24 true 27,cf 29 24 true .eql fA fB,bD 30 fS hE cG,U 31 30,bl 32 31 true 4 2,bm 33 31 true 32,bl 34 31 true 4 3,bm 35 31 true 34,cf 36 31 true .eql ib jA,bD 37 gH ic cG,U 38 37,bl 39 38 true 5 2,bm 40 38 true 39,bl 41 38 true 5 3,bm 42 38 true 41,dN 43 38 true 71 [kv,lN,.c (.fn 72 [])],bD 44 ku jh cG,U 4 44])
def Rd:List bk:=[.t 4]
theorem VK:bY Tryz.prog Tryz.f72 2 Ko Rd=true:=by kernel_rfl
def sP:bu:=
 .block 0 (.loop (aQ (aQ (.region [U 4 0,aD 5 (.cE gq),aI 6 1 5,aM 7 6,U 8 0,aD 9 (.cE dI),aI 10 0 9,aM 11 10,aD 12 (.fQ dy),aG 13 .lss dF dR] true) (a8 13 .skip (.exit 0))) (.block 1 (aQ (.region [U 14 0,aD 15 (.cE fu),aI 16 0 15,aM 17 16,U 18 0,aD 19 (.cE gU),aI 20 1 19,aM 21 20,aD 22 (.gE eA (some fc) none),U 2 22] true) (.block 2 (ak [U 24 2,aD 25 (.eJ fS (aE 0)),aD 26 (.conv .i32 ha),bi 27 144 [be [32,9,10,13],fA],U 23 27] (a8 23 (b1 [U 28 0,aD 29 (.cE fB),aI 30 1 29,aM 31 30,aG 32 .add gH (aE 1),aD 33 (.cE fB),aI 34 1 33,bZ 1 34 jz]) (ak [U 36 2,bi 37 145 [ic,be [47,47]],U 35 37] (a8 35 (ak [U 38 2,bi 39 146 [ku,.c (.int .u8 10)],U 3 39] (aQ (ak [U 40 3,aG 41 .lss kv (aE 0)] (a8 41 (b1 [U 42 2,aD 43 (.fQ lN),aG 44 .sub jh (aE 1),U 3 44]) .skip)) (b1 [U 45 0,aD 46 (.cE mJ),aI 47 1 46,aM 48 47,U 49 3,aG 50 .add oD (aE 1),aG 51 .add ly kw,aD 52 (.cE mJ),aI 53 1 52,bZ 1 53 lz]))) .ret)))))))))
def Rf:List bk:=[]
theorem VM:bY Tryz.prog Tryz.f78 1 sP Rf=true:=by kernel_rfl
def Kq:bu:=
 ak [aD 2 (.alloc 152 [.int .i64 0,.str [],.int .i64 0,.int .i64 0]),bx 3 (aE 0)] (aQ (ak [aD 7 (.build [.str [],.str [],.str [],.str [],.str [],.str [],.str [],.str []] [(0,1,be [45,62]),(1,1,be [46,46]),(2,1,be [60,61]),(3,1,be [62,61]),(4,1,be [61,61]),(5,1,be [33,61]),(6,1,be [38,38]),(7,1,be [124,124])]),bx 8 (aE 0)] (.block 0 (.loop (ak [aG 9 .lss dI (aE 8)] (aQ (a8 9 .skip (.exit 0)) (aQ (.block 1 (ak [aD 10 (.jn false 8 1 dF dI),U 5 10] (aQ (.region [U 11 0,aD 12 (.cE dy),aI 13 0 12,aM 14 13,U 15 0,aD 16 (.cE dq),aI 17 1 16,aM 18 17,aD 19 (.gE fu (some gU) none),U 20 5,fI 21 145 [eS,gy]] true) (a8 21 (ak [U 22 0,aD 23 (.cE fl),aI 24 1 23,aM 25 24,aG 26 .add ha (aE 2),aD 27 (.cE fl),aI 28 1 27,bZ 1 28 fA] (bd [U 29 5,aD 30 (.build [.int .i64 0,.str [],.int .i64 0,.int .i64 0] [(0,1,aE 4),(1,1,hE)]),bZ 4 2 jg,bx 3 (aE 0)])) .skip)))) (b1 [aG 31 .add dI (aE 1),U 8 31]))))))) (aQ (.region [U 32 0,aD 33 (.cE jz),aI 34 0 33,aM 35 34,U 36 0,aD 37 (.cE ic),aI 38 1 37,aM 39 38,U 40 0,aD 41 (.cE kv),aI 42 1 41,aM 43 42,aG 44 .add jh (aE 1),aD 45 (.gE jA (some lx) (some mb)),U 6 45] true) (aQ (ak [U 46 6,bi 47 147 [be [40,41,123,125,44,59,58,46,43,45,42,47,37,60,62,61,33],mK],fE 48 47] (a8 48 (bd [aD 49 (.build [.int .i64 0,.str [],.int .i64 0,.int .i64 0] []),bZ 4 2 oD,bx 3 (aE 3)]) .skip)) (ak [U 50 0,aD 51 (.cE kw),aI 52 1 51,aM 53 52,aG 54 .add nX (aE 1),aD 55 (.cE kw),aI 56 1 55,bZ 1 56 kX] (bd [U 57 6,aD 58 (.build [.int .i64 0,.str [],.int .i64 0,.int .i64 0] [(0,1,aE 4),(1,1,nt)]),bZ 4 2 kY,bx 3 (aE 0)])))))
def Rg:List bk:=[.cell true 4 2,.t 3]
theorem VN:bY Tryz.prog Tryz.f79 1 Kq Rg=true:=by kernel_rfl
def Kr:bu:=
 ak [ci 2] (bd [U 3 0,aG 4 .leq (.c (.int .u8 97)) fm,U 5 4,c5 6 5 true 0,cf 7 5 true .leq dt (.c (.int .u8 122)),bD 8 eG dF cG,U 9 8,c5 10 9 false 0,cf 11 9 false .leq (.c (.int .u8 65)) fi,c5 12 9 false 11,c5 13 12 true 0,cf 14 12 true .leq dS (.c (.int .u8 90)),bV 15 9 false (.pick dR fu cG),bD 16 eT c6 dq,U 2 16])
def Rh:List bk:=[.t 2]
theorem VO:bY Tryz.prog Tryz.f80 1 Kr Rh=true:=by kernel_rfl
def Ks:bu:=
 ak [aD 2 (.alloc 152 [.int .i64 0,.str [],.int .i64 0,.int .i64 0]),bx 3 (aE 0)] (ak [U 5 0,bi 6 148 [eG,.c (.fn 149 [])],U 4 6] (aQ (ak [U 7 4,aD 8 (.fQ dF),aG 9 .gtr dI (aE 16)] (a8 9 (bd [aD 10 (.build [.int .i64 0,.str [],.int .i64 0,.int .i64 0] []),bZ 4 2 fi,bx 3 (aE 6)]) .skip)) (bd [U 11 4,aD 12 (.build [.int .i64 0,.str [],.int .i64 0,.int .i64 0] [(0,1,aE 1),(1,1,dy)]),bZ 4 2 dR,bx 3 (aE 0)])))
def Ri:List bk:=[.cell true 4 2,.t 3]
theorem VP:bY Tryz.prog Tryz.f81 1 Ks Ri=true:=by kernel_rfl
def Kt:bu:=
 ak [ci 2] (bd [U 3 0,aG 4 .leq (.c (.int .u8 48)) fm,U 5 4,c5 6 5 true 0,cf 7 5 true .leq dt (.c (.int .u8 57)),bD 8 eG dF cG,U 2 8])
def Rj:List bk:=[.t 2]
theorem VQ:bY Tryz.prog Tryz.f82 1 Kt Rj=true:=by kernel_rfl
def Ku:bu:=
 ak [aD 2 (.alloc 152 [.int .i64 0,.str [],.int .i64 0,.int .i64 0]),bx 3 (aE 0)] (ak [U 7 0,bi 8 148 [dF,.c (.fn 82 [])],U 4 8] (aQ (aQ (.region [U 9 0,aD 10 (.cE eT),aI 11 1 10,aM 12 11,U 13 0,aD 14 (.cE dS),aI 15 0 14,aM 16 15,aD 17 (.fQ fb),aG 18 .lss dR eA,U 19 18,c5 20 19 true 0,bV 21 19 true (.cE gy),bl 22 19 true 0 21,bm 23 19 true 22,c5 24 19 true 0,bV 25 19 true (.cE fS),bl 26 19 true 1 25,bm 27 19 true 26,bV 28 19 true (.eJ fv gG),bV 29 19 true (.hz 149 [fB]),bD 30 eS hE cG] true) (a8 30 (bd [aD 31 (.build [.int .i64 0,.str [],.int .i64 0,.int .i64 0] []),bZ 4 2 gH,bx 3 (aE 3)]) .skip)) (aQ (ak [U 32 4,aD 33 (.fQ jz),aG 34 .gtr ib (aE 6),U 35 34,c5 36 35 false 4,bV 37 35 false (.fQ ic),cf 38 35 false .gtr j4 (aE 1),c5 39 35 false 38,c5 40 39 true 4,bV 41 39 true (.eJ kv (aE 0)),cf 42 39 true .eql mI (.c (.int .u8 48)),bV 43 35 false (.pick lx lN cG),bD 44 jA c6 jh] (a8 44 (bd [aD 45 (.build [.int .i64 0,.str [],.int .i64 0,.int .i64 0] []),bZ 4 2 mJ,bx 3 (aE 2)]) .skip)) (ak [aD 46 (.build [.int .i64 0,.str [],.int .i64 0,.int .i64 0] [(0,1,aE 2)]),aD 5 (.alloc 152 [.int .i64 0,.str [],.int .i64 0,.int .i64 0]),bZ 4 5 mK] (aQ (ak [U 47 4,aD 48 (.fQ mL),bx 49 (aE 0)] (.block 0 (.loop (ak [aG 50 .lss oD ly] (aQ (a8 50 .skip (.exit 0)) (aQ (.block 1 (ak [U 51 49,U 6 51] (.region [aI 52 2 5,aM 53 52,aG 54 .mul (aE 10) nX,U 55 4,U 56 6,aD 57 (.eJ lO kx),aG 58 .sub nt (.c (.int .u8 48)),aD 59 (.conv .i64 kY),aG 60 .add kX tu,aI 61 2 5,bZ 1 61 lP] true))) (b1 [aG 62 .add oD (aE 1),U 49 62]))))))) (bd [cr 63 4 5,bZ 4 2 q5,bx 3 (aE 0)]))))))
def Rk:List bk:=[.cell true 4 2,.t 3]
theorem VR:bY Tryz.prog Tryz.f83 1 Ku Rk=true:=by kernel_rfl
def wP:bu:=
 ak [U 4 0,U 5 1,bi 6 87 [gq,eG],fE 7 6] (a8 7 (b1 [U 8 0,bi 9 91 [dI,aE 3]]) .skip)
def Rm:List bk:=[]
theorem VT:bY Tryz.prog Tryz.f85 2 wP Rm=true:=by kernel_rfl
def Kw:bu:=
 ak [bx 2 (be [])] (aQ (ak [U 3 0,bi 4 150 [fm],fE 5 4] (a8 5 (b1 [U 6 0,bi 7 91 [dt,aE 3]]) .skip)) (bd [U 8 0,bi 9 151 [dI,aE 1],aD 10 (.field false 1 1 eT),U 2 10]))
def Rn:List bk:=[.t 2]
theorem VU:bY Tryz.prog Tryz.f86 1 Kw Rn=true:=by kernel_rfl
def Kx:bu:=
 ak [ci 4] (ak [U 6 0,U 7 1,bi 8 152 [dt,dF],U 5 8] (aQ (ak [U 9 5] (a8 9 (b1 [U 10 0,U 11 0,aD 12 (.cE dy),aI 13 0 12,aM 14 13,aD 15 (.h9 4 fu (some (aE 1)) none none),aD 16 (.cE fi),aI 17 0 16,bZ 1 17 dq]) .skip)) (bd [U 18 5,U 4 18])))
def Ro:List bk:=[.t 4]
theorem VV:bY Tryz.prog Tryz.f87 2 Kx Ro=true:=by kernel_rfl
def Ky:bu:=
 ak [aD 2 (.alloc 106 [.str [],.int .i64 0,.int .i64 0,.int .i64 0,.int .i64 0,.int .i64 0,.str []])] (ak [U 4 0,bi 5 86 [gq],aD 6 (.build [.str [],.int .i64 0,.int .i64 0,.int .i64 0,.int .i64 0,.int .i64 0,.str []] [(0,1,eG)]),aD 3 (.alloc 106 [.str [],.int .i64 0,.int .i64 0,.int .i64 0,.int .i64 0,.int .i64 0,.str []]),bZ 7 3 dt] (ak [U 7 0,bi 8 85 [dF,be [58]]] (aQ (ak [U 9 0,bi 10 87 [eT,be [116,101,120,116]]] (a8 10 (ak [U 11 0,bi 12 151 [dy,aE 2],aD 13 (.field false 2 1 dR),aD 14 (.build [.int .i64 0,.int .i64 0,.int .i64 0] [(0,1,aE 2),(1,1,dS)]),aI 15 1 3,bZ 3 15 fu] (ak [U 16 0,bi 17 85 [fb,be [46,46]]] (b1 [U 18 0,bi 19 151 [gU,aE 2],aD 20 (.field false 2 1 eS),aI 21 1 3,aI 22 2 21,bZ 1 22 gy]))) (ak [U 23 0,bi 24 85 [fv,be [105,110,116]]] (ak [U 25 0,bi 26 153 [ha],aD 27 (.build [.int .i64 0,.int .i64 0,.int .i64 0] [(0,1,aE 1),(1,1,fA)]),aI 28 1 3,bZ 3 28 gG] (ak [U 29 0,bi 30 85 [hE,be [46,46]]] (b1 [U 31 0,bi 32 153 [gH],aI 33 1 3,aI 34 2 33,bZ 1 34 jz])))))) (ak [U 35 0,bi 36 85 [jA,be [61]]] (aQ (ak [U 37 0,aD 38 (.cE j4),aI 39 0 38,aM 40 39,cL 41 40,aG 42 .gtr mI (aE 0),U 43 42,c5 44 43 true 0,bV 45 43 true (.cE mb),bl 46 43 true 0 45,bm 47 43 true 46,bV 48 43 true (.fW 4 mL (aE 0)),bl 49 43 true 0 48,bm 50 43 true 49,cf 51 43 true .eql kw (aE 3),bD 52 jh lz cG] (a8 52 (b1 [U 53 0,bi 54 151 [nX,aE 3],aD 55 (.field false 1 1 kX),aD 56 (.build [.int .i64 0,.int .i64 0,.str []] [(0,1,aE 2),(2,1,lO)]),aI 57 4 3,bZ 3 57 kx]) (b1 [U 58 0,bi 59 153 [kY],aD 60 (.build [.int .i64 0,.int .i64 0,.str []] [(0,1,aE 1),(1,1,tu)]),aI 61 4 3,bZ 3 61 lP]))) (ak [U 62 0,bi 63 85 [sh,be [59]]] (bd [cr 64 7 3,bZ 7 2 oE])))))))
def Rq:List bk:=[.cell true 7 2]
theorem VW:bY Tryz.prog Tryz.f88 1 Ky Rq=true:=by kernel_rfl
def Kz:bu:=
 ak [aD 2 (.alloc 109 [.str [],.str [],.aV,.aV])] (ak [U 4 0,bi 5 154 [gq],aD 6 (.build [.str [],.str [],.aV,.aV] [(0,1,eG)]),aD 3 (.alloc 109 [.str [],.str [],.aV,.aV]),bZ 4 3 dt] (ak [U 7 0,bi 8 85 [dF,be [40]]] (aQ (ak [U 9 0,bi 10 87 [eT,be [41]],fE 11 10] (a8 11 (aQ (.region [aI 12 2 3,aD 13 (.hr 3 false 1 dR),U 14 0,aD 15 (.hM [3] 86 [fu]),aD 16 (.dA 9 1 1 [.str []] [(0,dq)]),aD 17 (.append 9 1 16 dS fb),aI 18 2 3,bZ 1 18 eA] true) (aQ (.block 0 (.loop (aQ (ak [U 19 0,bi 20 87 [eS,be [44]]] (a8 20 .skip (.exit 0))) (.block 1 (.region [aI 21 2 3,aD 22 (.hr 3 false 1 fc),U 23 0,aD 24 (.hM [3] 86 [fv]),aD 25 (.dA 9 1 1 [.str []] [(0,fS)]),aD 26 (.append 9 1 16 fl ha),aI 27 2 3,bZ 1 27 fA] true))))) (b1 [U 28 0,bi 29 85 [fB,be [41]]]))) .skip)) (ak [U 30 0,bi 31 85 [jg,be [102,114,111,109]]] (ak [U 32 0,bi 33 86 [jz],aI 34 1 3,bZ 1 34 ib] (ak [U 35 0,bi 36 155 [jA],aI 37 3 3,bZ 1 37 ic] (bd [cr 38 4 3,bZ 4 2 ku])))))))
def Rr:List bk:=[.cell true 4 2]
theorem VX:bY Tryz.prog Tryz.f89 1 Kz Rr=true:=by kernel_rfl
def KA:bu:=
 ak [aD 2 (.alloc 74 [.str [],.str [],.aV,.aV])] (ak [U 4 0,bi 5 154 [gq],aD 6 (.build [.str [],.str [],.aV,.aV] [(0,1,eG)]),aD 3 (.alloc 74 [.str [],.str [],.aV,.aV]),bZ 4 3 dt] (ak [U 7 0,bi 8 85 [dF,be [40]]] (aQ (ak [U 9 0,bi 10 87 [eT,be [41]],fE 11 10] (a8 11 (aQ (.region [aI 12 2 3,aD 13 (.hr 3 false 1 dR),U 14 0,aD 15 (.hM [3] 156 [fu,aE 1]),aD 16 (.dA 131 6 1 [.int .i64 0,.str [],.str [],.str [],.int .i64 0,.aV] [(0,dq)]),aD 17 (.append 131 6 88 dS fb),aI 18 2 3,bZ 1 18 eA] true) (aQ (.block 0 (.loop (aQ (ak [U 19 0,bi 20 87 [eS,be [44]]] (a8 20 .skip (.exit 0))) (.block 1 (.region [aI 21 2 3,aD 22 (.hr 3 false 1 fc),U 23 0,aD 24 (.hM [3] 156 [fv,aE 1]),aD 25 (.dA 131 6 1 [.int .i64 0,.str [],.str [],.str [],.int .i64 0,.aV] [(0,fS)]),aD 26 (.append 131 6 88 fl ha),aI 27 2 3,bZ 1 27 fA] true))))) (b1 [U 28 0,bi 29 85 [fB,be [41]]]))) .skip)) (ak [U 30 0,bi 31 85 [jg,be [116,111]]] (ak [U 32 0,bi 33 86 [jz],aI 34 1 3,bZ 1 34 ib] (aQ (ak [U 35 0,bi 36 87 [jA,be [119,104,101,114,101]]] (a8 36 (b1 [U 37 0,bi 38 156 [j4,aE 1],aD 39 (.dA 131 6 1 [.int .i64 0,.str [],.str [],.str [],.int .i64 0,.aV] [(0,ku)]),aI 40 3 3,bZ 1 40 lx]) .skip)) (ak [U 41 0,bi 42 85 [mI,be [59]]] (bd [cr 43 4 3,bZ 4 2 jh]))))))))
def Rt:List bk:=[.cell true 4 2]
theorem VY:bY Tryz.prog Tryz.f90 1 KA Rt=true:=by kernel_rfl
def KB:bu:=
 ak [U 5 0,aD 6 (.cE eG),aI 7 1 6,aM 8 7,U 4 8] (aQ (ak [U 9 0,aD 10 (.cE eT),aI 11 0 10,aM 12 11,cL 13 12,aG 14 .gtr dS (aE 0)] (a8 14 (b1 [U 15 0,aD 16 (.cE dq),aI 17 0 16,aM 18 17,cU 19 4 gU (aE 0),aI 20 3 19,aM 21 20,U 4 21]) .skip)) (b1 [U 22 4,U 23 1,aD 24 (.build [.int .i64 0,.int .i64 0] [(0,1,fl),(1,1,fv)]),aD 25 (.o5 79 fS),lE (.panic ha)]))
def Ru:List bk:=[]
theorem VZ:bY Tryz.prog Tryz.f91 2 KB Ru=true:=by kernel_rfl
def IJ:bu:=
 ak [ci 4] (bd [U 5 0,U 6 1,bi 7 160 [eG,dt],aG 8 .geq dF (aE 0),U 4 8])
def Pk:List bk:=[.t 4]
theorem TT:bY Tryz.prog Tryz.f103 2 IJ Pk=true:=by kernel_rfl
def IK:bu:=
 ak [aD 2 (.box 106 gp),ci 3] (bd [aM 4 1,cr 5 7 2,aD 6 (.fw gq [eG]),fE 7 6,U 3 7])
def Pl:List bk:=[.t 3]
theorem TU:bY Tryz.prog Tryz.f104 1 IK Pl=true:=by kernel_rfl
def IL:bu:=
 ak [ci 2] (bd [U 3 0,aG 4 .geq fm (aE (-999999)),U 5 4,c5 6 5 true 0,cf 7 5 true .leq dt (aE 999999),bD 8 eG dF cG,U 2 8])
def Pm:List bk:=[.t 2]
theorem TV:bY Tryz.prog Tryz.f105 1 IL Pm=true:=by kernel_rfl
def IM:bu:=
 ak [ci 2] (bd [U 3 0,aD 4 (.fQ fm),aG 5 .leq gq (aE 40),U 6 5,c5 7 6 true 0,dN 8 6 true 161 [dF,.c (.fn 162 [])],bV 9 6 true (.not dI),bD 10 dt eT cG,U 2 10])
def Pn:List bk:=[.t 2]
theorem TW:bY Tryz.prog Tryz.f106 1 IM Pn=true:=by kernel_rfl
def IN:bu:=
 ak [ci 4] (bd [U 5 0,U 6 1,bi 7 163 [eG,dt],aG 8 .geq dF (aE 0),U 4 8])
def Po:List bk:=[.t 4]
theorem TX:bY Tryz.prog Tryz.f107 2 IN Po=true:=by kernel_rfl
def IP:bu:=
 ak [aD 2 (.box 109 gp),ci 3] (bd [aM 4 1,cr 5 4 2,aD 6 (.fw gq [eG]),fE 7 6,U 3 7])
def Pp:List bk:=[.t 3]
theorem TY:bY Tryz.prog Tryz.f108 1 IP Pp=true:=by kernel_rfl
def IQ:bu:=
 ak [aD 1 (.box 133 gp),ci 2] (bd [cr 3 11 1,bi 4 110 [fm],aG 5 .leq gq (aE 10),U 2 5])
def Pq:List bk:=[.t 2]
theorem TZ:bY Tryz.prog Tryz.f109 1 IQ Pq=true:=by kernel_rfl
def IS:bu:=
 ak [aD 1 (.box 133 gp),bx 2 (aE 0)] (ak [aI 6 2 1,cr 7 6 6,bi 8 118 [dF],U 3 8] (aQ (ak [aI 9 9 1,aM 10 9,aI 11 10 1,aM 12 11,aD 13 (.dA 107 1 2 [.aV] [(0,fi),(1,dR)]),bi 14 164 [dS],cL 15 14,bx 16 (aE 0)] (.block 0 (.loop (ak [aG 17 .lss fb dq] (aQ (a8 17 .skip (.exit 0)) (aQ (.block 1 (ak [cU 18 11 fu fb,cr 19 11 18,aD 5 (.alloc 133 [.int .i64 0,.str [],.int .i64 0,.str [],.str [],.str [],.int .i64 0,.aV,.int .i64 0,.aV,.aV]),bZ 11 5 eS] (b1 [U 20 3,cr 21 11 5,bi 22 110 [fc],aD 23 (.nR true [gy,fl]),U 3 23]))) (b1 [aG 24 .add fb (aE 1),U 16 24]))))))) (bd [U 25 3,aG 26 .add (aE 1) ha,U 2 26])))
def Ps:List bk:=[.t 2]
theorem T0:bY Tryz.prog Tryz.f110 1 IS Ps=true:=by kernel_rfl
def IT:bu:=
 ak [ci 2] (bd [U 3 0,aD 4 (.fQ fm),aG 5 .leq gq (aE 50),U 6 5,c5 7 6 true 0,dN 8 6 true 166 [dF,be [46]],dN 9 6 true 165 [dI,.c (.fn 167 [])],bV 10 6 true (.not eT),bD 11 dt fi cG,U 2 11])
def Pt:List bk:=[.t 2]
theorem T1:bY Tryz.prog Tryz.f111 1 IT Pt=true:=by kernel_rfl
def IU:bu:=
 ak [aD 3 (.box 41 ls),ci 4] (bd [U 5 0,aD 6 (.ng 168 [fm]),bi 7 165 [eG,dt],fE 8 7,U 4 8])
def Pu:List bk:=[.t 4]
theorem T3:bY Tryz.prog Tryz.f112 2 IU Pu=true:=by kernel_rfl
def IV:bu:=
 ak [aD 3 (.box 170 ls),ci 4] (bd [U 5 0,aD 6 (.ng 170 [fm]),bi 7 169 [eG,dt],fE 8 7,U 4 8])
def Pv:List bk:=[.t 4]
theorem T4:bY Tryz.prog Tryz.f113 2 IV Pv=true:=by kernel_rfl
def IW:bu:=
 ak [aD 1 (.box 133 gp),ci 2] (aQ (ak [aI 3 0 1,aM 4 3] (.block 0 (ak [aG 6 .eql gq (aE 1),U 5 6] (a8 5 (ak [aI 7 1 1,aM 8 7,bi 9 45 [dI],fE 10 9,U 11 10,bl 12 11 false 8 1,bm 13 11 false 12,cf 14 11 false .neq dS (aE 0),bD 15 dy c6 fu,U 16 15,bl 17 16 false 9 1,bm 18 16 false 17,bV 19 16 false (.len gU),cf 20 16 false .gtr eS (aE 0),bD 21 fb c6 gy,U 22 21,bl 23 22 false 10 1,bm 24 22 false 23,bV 25 22 false (.len fS),cf 26 22 false .gtr ha (aE 0),bD 27 fl c6 fA] (a8 27 (bd [ci 2]) .skip)) (ak [aG 29 .eql gq (aE 2),U 28 29] (a8 28 (ak [aI 30 1 1,aM 31 30,aG 32 .neq gH (be []),U 33 32,bl 34 33 false 8 1,bm 35 33 false 34,cf 36 33 false .neq jA (aE 0),bD 37 ib c6 ic] (a8 37 (bd [ci 2]) .skip)) (ak [aG 39 .eql gq (aE 3),U 38 39] (a8 38 (ak [aI 40 1 1,aM 41 40,aG 42 .neq mI (be []),U 43 42,bl 44 43 false 8 1,bm 45 43 false 44,cf 46 43 false .lss mJ (aE 1),bD 47 jh c6 mK,U 48 47,bl 49 48 false 8 1,bm 50 48 false 49,cf 51 48 false .gtr kw (aE 50),bD 52 ly c6 lz,U 53 52,bl 54 53 false 10 1,bm 55 53 false 54,bV 56 53 false (.len lO),cf 57 53 false .gtr kx (aE 0),bD 58 nX c6 nt] (a8 58 (bd [ci 2]) .skip)) (bd [ci 2]))))))))) (bd [aI 59 2 1,cr 60 6 59,bi 61 121 [lP],U 62 61,bl 63 62 true 9 1,bm 64 62 true 63,dN 65 62 true 113 [oE,.c (.fn 114 [])],bD 66 sh oF cG,U 67 66,bl 68 67 true 10 1,bm 69 67 true 68,dN 70 67 true 113 [q7,.c (.fn 114 [])],bD 71 q6 p8 cG,U 2 71]))
def Pw:List bk:=[.t 2]
theorem T5:bY Tryz.prog Tryz.f114 1 IW Pw=true:=by kernel_rfl
def IX:bu:=
 ak [ci 4] (bd [U 5 0,U 6 1,bi 7 171 [eG,dt],aG 8 .geq dF (aE 0),U 4 8])
def Px:List bk:=[.t 4]
theorem T6:bY Tryz.prog Tryz.f115 2 IX Px=true:=by kernel_rfl
def IY:bu:=
 ak [aD 2 (.box 74 gp),ci 3] (bd [aM 4 1,cr 5 4 2,aD 6 (.fw gq [eG]),fE 7 6,U 3 7])
def Py:List bk:=[.t 3]
theorem T7:bY Tryz.prog Tryz.f116 1 IY Py=true:=by kernel_rfl
def IZ:bu:=
 ak [aD 1 (.box 131 gp),ci 2] (bd [cr 3 6 1,bi 4 118 [fm],aG 5 .leq gq (aE 10),U 2 5])
def Pz:List bk:=[.t 2]
theorem T8:bY Tryz.prog Tryz.f117 1 IZ Pz=true:=by kernel_rfl
def I0:bu:=
 ak [aD 1 (.box 131 gp),bx 2 (aE 0)] (ak [bx 3 (aE 0)] (aQ (ak [aI 6 5 1,aM 7 6,cL 8 7,bx 9 (aE 0)] (.block 0 (.loop (ak [aG 10 .lss eT dI] (aQ (a8 10 .skip (.exit 0)) (aQ (.block 1 (ak [cU 11 6 dF eT,cr 12 6 11,aD 5 (.alloc 131 [.int .i64 0,.str [],.str [],.str [],.int .i64 0,.aV]),bZ 6 5 dR] (b1 [U 13 3,cr 14 6 5,bi 15 118 [fu],aD 16 (.nR true [dS,dq]),U 3 16]))) (b1 [aG 17 .add eT (aE 1),U 9 17]))))))) (bd [U 18 3,aG 19 .add (aE 1) gU,U 2 19])))
def PA:List bk:=[.t 2]
theorem T9:bY Tryz.prog Tryz.f118 1 I0 PA=true:=by kernel_rfl
def I1:bu:=
 ak [bx 2 (.c .aV)] (ak [bx 3 (aE 0)] (aQ (ak [U 9 0,cL 10 9,bx 11 (aE 0)] (.block 0 (.loop (ak [aG 12 .lss dy fi] (aQ (a8 12 .skip (.exit 0)) (aQ (.block 1 (ak [cU 13 1 eT dy,aM 14 13,U 5 14] (ak [U 15 3,U 16 5,cL 17 16,aG 18 .add dq eA,U 3 18] (ak [U 19 3,aG 20 .lss eS (aE 0)] (a8 20 (b1 [aD 21 (.o5 9 (be [108,101,110,32,111,117,116,32,111,102,32,114,97,110,103,101])),lE (.panic fc)]) .skip))))) (b1 [aG 22 .add dy (aE 1),U 11 22]))))))) (ak [U 23 3,bi 24 172 [.c .aV,fv],U 6 24] (aQ (ak [U 25 0,cL 26 25,bx 27 (aE 0)] (.block 2 (.loop (ak [aG 28 .lss gG fA] (aQ (a8 28 .skip (.exit 2)) (aQ (.block 3 (ak [cU 29 1 ha gG,aM 30 29,U 8 30] (b1 [U 31 6,U 32 8,aD 33 (.append 131 6 88 gH jz),U 6 33]))) (b1 [aG 34 .add gG (aE 1),U 27 34]))))))) (bd [U 35 6,U 2 35])))))
def PB:List bk:=[.t 2]
theorem Ua:bY Tryz.prog Tryz.f119 1 I1 PB=true:=by kernel_rfl
def I2:bu:=
 ak [aD 3 (.box 174 ls),ci 4] (bd [U 5 0,aD 6 (.ng 174 [fm]),bi 7 173 [eG,dt],fE 8 7,U 4 8])
def PC:List bk:=[.t 4]
theorem Ub:bY Tryz.prog Tryz.f120 2 I2 PC=true:=by kernel_rfl
def I3:bu:=
 ak [aD 1 (.box 131 gp),ci 2] (ak [aI 5 0 1,aM 6 5,aI 7 5 1,aM 8 7,aD 9 (.build [.int .i64 0,.str [],.str [],.str [],.int .i64 0,.aV] [(0,1,dt),(5,1,dI)]),aD 3 (.alloc 131 [.int .i64 0,.str [],.str [],.str [],.int .i64 0,.aV]),bZ 6 3 eT] (ak [bx 4 (aE 0)] (aQ (ak [aI 10 0 1,aM 11 10] (.block 0 (ak [aG 13 .eql dy (aE 1),U 12 13] (a8 12 (ak [aI 14 4 1,aM 15 14,aI 16 4 3,bZ 1 16 dq] (ak [aI 17 4 1,aM 18 17,aG 19 .lss gU (aE 0),U 20 19,bl 21 20 false 4 1,bm 22 20 false 21,cf 23 20 false .gtr fl (aE 1000),bD 24 gy c6 fv] (a8 24 (bd [ci 2]) .skip))) (ak [aG 26 .eql dy (aE 2),U 25 26] (a8 25 (ak [aI 27 3 1,aM 28 27,aI 29 3 3,bZ 1 29 fB] (ak [aI 30 3 1,aM 31 30,bi 32 106 [gH],fE 33 32] (a8 33 (bd [ci 2]) .skip))) (ak [aG 35 .eql dy (aE 3),U 34 35] (a8 34 (ak [aI 36 2 1,aM 37 36,aI 38 2 3,bZ 1 38 j4] (ak [aI 39 2 1,aM 40 39,bi 41 45 [kv],fE 42 41] (a8 42 (bd [ci 2]) .skip))) (ak [aG 44 .eql dy (aE 4),U 43 44] (a8 43 (b1 [bx 4 (aE 1)]) (ak [aG 46 .eql dy (aE 5),U 45 46] (a8 45 (ak [aI 47 1 1,aM 48 47,aI 49 1 3,bZ 1 49 ly,bx 4 (aE 1)] (ak [aI 50 1 1,aM 51 50,aG 52 .neq lz (be [45]),U 53 52,bl 54 53 true 1 1,bm 55 53 true 54,cf 56 53 true .neq lO (be [33]),bD 57 nX kx cG] (a8 57 (bd [ci 2]) .skip))) (ak [aG 59 .eql dy (aE 6),U 58 59] (a8 58 (ak [aI 60 1 1,aM 61 60,aI 62 1 3,bZ 1 62 tv,bx 4 (aE 2)] (ak [aI 63 1 1,aM 64 63,bi 65 175 [oE],aG 66 .eql oF (aE 0)] (a8 66 (bd [ci 2]) .skip))) (bd [ci 2]))))))))))))))) (bd [aI 67 5 1,aM 68 67,cL 69 68,U 70 4,aG 71 .eql q7 p8,U 72 71,bl 73 72 true 1 1,bm 74 72 true 73,bl 75 72 true 1 3,bm 76 72 true 75,cf 77 72 true .eql tx zR,bD 78 tw sk cG,U 79 78,bl 80 79 true 2 1,bm 81 79 true 80,bl 82 79 true 2 3,bm 83 79 true 82,cf 84 79 true .eql xX sl,bD 85 wa xY cG,U 86 85,bl 87 86 true 3 1,bm 88 86 true 87,bl 89 86 true 3 3,bm 90 86 true 89,cf 91 86 true .eql we zS,bD 92 uT wg cG,U 93 92,bl 94 93 true 4 1,bm 95 93 true 94,bl 96 93 true 4 3,bm 97 93 true 96,cf 98 93 true .eql x1 CE,bD 99 x0 x3 cG,U 100 99,bl 101 100 true 5 1,bm 102 100 true 101,dN 103 100 true 120 [xV,.c (.fn 121 [])],bD 104 zK zL cG,U 2 104]))))
def PD:List bk:=[.t 2]
theorem Uc:bY Tryz.prog Tryz.f121 1 I3 PD=true:=by kernel_rfl
def I4:bu:=
 aQ (.region [U 6 0,aD 7 (.cE dt),aI 8 0 7,U 9 0,aD 10 (.cE eT),aI 11 2 10,aM 12 11,fI 13 177 [be [9],dR],bi 14 176 [dI,dS]] true) (aQ (ak [U 15 1,cL 16 15,bx 17 (aE 0)] (.block 0 (.loop (ak [aG 18 .lss eA fb] (aQ (a8 18 .skip (.exit 0)) (aQ (.block 1 (ak [cU 19 1 dq eA,aM 20 19,U 5 20] (b1 [U 21 0,aD 22 (.cE fc),aI 23 0 22,U 24 5,bi 25 176 [fv,fS]]))) (b1 [aG 26 .add eA (aE 1),U 17 26]))))))) (b1 [U 27 0,aD 28 (.cE gG),aI 29 0 28,bi 30 178 [hE,.c (.int .u8 10)]]))
def PE:List bk:=[]
theorem Ud:bY Tryz.prog Tryz.f122 2 I4 PE=true:=by kernel_rfl
def I5:bu:=
 ak [aD 1 (.box 93 gp),bx 2 (be [])] (aQ (ak [aI 3 0 1,aM 4 3,aG 5 .eql gq (aE 2)] (a8 5 (bd [aI 6 2 1,aM 7 6,bi 8 180 [dF],U 2 8]) .skip)) (bd [aI 9 1 1,aM 10 9,bi 11 123 [fi],U 2 11]))
def PF:List bk:=[.t 2]
theorem Ue:bY Tryz.prog Tryz.f124 1 I5 PF=true:=by kernel_rfl
def I6:bu:=
 ak [U 6 0,aD 7 (.cE dt),aI 8 2 7,aM 9 8,aG 10 .add eT (aE 1),aD 11 (.cE dt),aI 12 2 11,bZ 1 12 fi] (aQ (ak [U 13 1,cL 14 13,bx 15 (aE 0)] (.block 0 (.loop (ak [aG 16 .lss dq fu] (aQ (a8 16 .skip (.exit 0)) (aQ (.block 1 (ak [cU 17 11 dS dq,cr 18 11 17,aD 5 (.alloc 133 [.int .i64 0,.str [],.int .i64 0,.str [],.str [],.str [],.int .i64 0,.aV,.int .i64 0,.aV,.aV]),bZ 11 5 gU] (b1 [U 19 0,cr 20 11 5,bi 21 182 [eS,gy]]))) (b1 [aG 22 .add dq (aE 1),U 15 22]))))))) (b1 [U 23 0,aD 24 (.cE fv),aI 25 2 24,aM 26 25,aG 27 .sub fA (aE 1),aD 28 (.cE fv),aI 29 2 28,bZ 1 29 gG]))
def PG:List bk:=[]
theorem Uf:bY Tryz.prog Tryz.f126 2 I6 PG=true:=by kernel_rfl
def I7:bu:=
 ak [aD 1 (.box 131 gp),bx 2 (be [])] (aQ (ak [aI 4 0 1,aM 5 4] (.block 0 (ak [aG 7 .eql eG (aE 1),U 6 7] (a8 6 (bd [aI 8 4 1,aM 9 8,bi 10 123 [eT],U 2 10]) (ak [aG 12 .eql eG (aE 2),U 11 12] (a8 11 (bd [aI 13 3 1,aM 14 13,bi 15 180 [fu],U 2 15]) (ak [aG 17 .eql eG (aE 3),U 16 17] (a8 16 (bd [aI 18 2 1,aM 19 18,U 2 19]) (ak [aG 21 .eql eG (aE 4),U 20 21] (a8 20 (bd [aI 22 5 1,aM 23 22,cU 24 6 fv (aE 0),cr 25 6 24,bi 26 127 [ha],aG 27 .add (be [108,101,110,40]) fA,aG 28 .add gG (be [41]),U 2 28]) (ak [aG 30 .eql eG (aE 5),U 29 30] (a8 29 (aQ (.region [aI 31 1 1,aM 32 31,aI 33 5 1,aM 34 33,cU 35 6 lu (aE 0),cr 36 6 35,fI 37 183 [ic,aE 7],aG 38 .add jz j4,U 2 38] true) .ret) .skip)))))))))))) (ak [aI 39 1 1,aM 40 39,bi 41 175 [kv],U 3 41] (aQ (.region [aI 42 5 1,aM 43 42,cU 44 6 jh (aE 0),cr 45 6 44,U 46 3,fI 47 183 [mJ,mK],aG 48 .add mL (be [32]),aI 49 1 1,aM 50 49,aG 51 .add ly kw,aG 52 .add lz (be [32]),aI 53 5 1,aM 54 53,cU 55 6 kX (aE 1),cr 56 6 55,U 57 3,aG 58 .add nt (aE 1),fI 59 183 [kx,kY],aG 60 .add ns tu,U 2 60] true) .ret)))
def PH:List bk:=[.t 2]
theorem Ug:bY Tryz.prog Tryz.f127 1 I7 PH=true:=by kernel_rfl
def I8:bu:=
 ak [bx 2 (be [])] (ak [bx 3 (.c .aV)] (aQ (ak [U 6 0,cL 7 6,bx 8 (aE 0)] (.block 0 (.loop (ak [aG 9 .lss dI dF] (aQ (a8 9 .skip (.exit 0)) (aQ (.block 1 (ak [cU 10 6 dt dI,cr 11 6 10,aD 5 (.alloc 131 [.int .i64 0,.str [],.str [],.str [],.int .i64 0,.aV]),bZ 6 5 dy] (b1 [U 12 3,cr 13 6 5,bi 14 127 [dS],aD 15 (.dA 9 1 1 [.str []] [(0,fu)]),aD 16 (.append 9 1 16 dR dq),U 3 16]))) (b1 [aG 17 .add dI (aE 1),U 8 17]))))))) (bd [U 18 3,bi 19 125 [gU,be [44,32]],U 2 19])))
def PI:List bk:=[.t 2]
theorem Uh:bY Tryz.prog Tryz.f128 1 I8 PI=true:=by kernel_rfl
def Jm:bu:=
 ak [bx 4 (be [])] (ak [U 6 0,aD 7 (.cE dt),aI 8 1 7,aM 9 8,U 5 9] (aQ (.block 0 (.loop (aQ (aQ (.region [U 10 0,aD 11 (.cE fi),aI 12 1 11,aM 13 12,U 14 0,aD 15 (.cE fu),aI 16 0 15,aM 17 16,aD 18 (.fQ eA),aG 19 .lss dS gU,U 20 19,c5 21 20 true 1,c5 22 20 true 0,bV 23 20 true (.cE fl),bl 24 20 true 0 23,bm 25 20 true 24,c5 26 20 true 0,bV 27 20 true (.cE fA),bl 28 20 true 1 27,bm 29 20 true 28,bV 30 20 true (.eJ ha hE),bV 31 20 true (.jq fc [jg]),bD 32 gy gH cG] true) (a8 32 .skip (.exit 0))) (.block 1 (b1 [U 33 0,aD 34 (.cE ib),aI 35 1 34,aM 36 35,aG 37 .add ic (aE 1),aD 38 (.cE ib),aI 39 1 38,bZ 1 39 j4]))))) (aQ (.region [U 40 0,aD 41 (.cE kv),aI 42 0 41,aM 43 42,U 44 5,U 45 0,aD 46 (.cE mJ),aI 47 1 46,aM 48 47,aD 49 (.gE jh (some mb) (some ly)),U 4 49] true) .ret)))
def PW:List bk:=[.t 4]
theorem Uv:bY Tryz.prog Tryz.f148 2 Jm PW=true:=by kernel_rfl
def tX:bu:=
 ak [ci 2] (bd [U 3 0,bi 4 80 [fm],U 5 4,c5 6 5 false 0,dN 7 5 false 82 [dt],bD 8 eG c6 dF,U 9 8,c5 10 9 false 0,cf 11 9 false .eql fi (.c (.int .u8 95)),bD 12 eT c6 dy,U 2 12])
def PX:List bk:=[.t 2]
theorem Uw:bY Tryz.prog Tryz.f149 1 tX PX=true:=by kernel_rfl
def Jn:bu:=
 ak [ci 2] (bd [U 3 0,aD 4 (.cE fm),aI 5 0 4,aM 6 5,cL 7 6,aG 8 .gtr dF (aE 0),U 9 8,c5 10 9 true 0,bV 11 9 true (.cE fi),bl 12 9 true 0 11,bm 13 9 true 12,bV 14 9 true (.fW 4 dS (aE 0)),bl 15 9 true 0 14,bm 16 9 true 15,cf 17 9 true .eql fb (aE 1),bD 18 eT eA cG,U 19 18,c5 20 19 true 0,bV 21 19 true (.cE gy),bl 22 19 true 0 21,bm 23 19 true 22,bV 24 19 true (.fW 4 fv (aE 0)),bl 25 19 true 1 24,bm 26 19 true 25,dN 27 19 true 45 [fA],bD 28 eS gG cG,U 2 28])
def PZ:List bk:=[.t 2]
theorem Uy:bY Tryz.prog Tryz.f150 1 Jn PZ=true:=by kernel_rfl
def Jo:bu:=
 ak [aD 4 (.alloc 152 [.int .i64 0,.str [],.int .i64 0,.int .i64 0])] (aQ (ak [U 6 0,aD 7 (.cE dt),aI 8 0 7,aM 9 8,cL 10 9,aG 11 .eql fi (aE 0),U 12 11,c5 13 12 false 0,bV 14 12 false (.cE dS),bl 15 12 false 0 14,bm 16 12 false 15,bV 17 12 false (.fW 4 fb (aE 0)),bl 18 12 false 0 17,bm 19 12 false 18,c5 20 12 false 1,cf 21 12 false .neq eS gy,bD 22 dR c6 fc] (a8 22 (b1 [U 23 0,bi 24 91 [fv,aE 3]]) .skip)) (ak [U 25 0,aD 26 (.cE ha),aI 27 0 26,aM 28 27,cU 29 4 fB (aE 0),cr 30 4 29,aD 5 (.alloc 152 [.int .i64 0,.str [],.int .i64 0,.int .i64 0]),bZ 4 5 jg] (ak [U 31 0,U 32 0,aD 33 (.cE jz),aI 34 0 33,aM 35 34,aD 36 (.h9 4 jA (some (aE 1)) none none),aD 37 (.cE gH),aI 38 0 37,bZ 1 38 ic] (bd [cr 39 4 5,bZ 4 4 lx]))))
def P0:List bk:=[.cell true 4 4]
theorem Uz:bY Tryz.prog Tryz.f151 2 Jo P0=true:=by kernel_rfl
def Jp:bu:=
 ak [ci 4] (bd [U 5 0,aD 6 (.cE eG),aI 7 0 6,aM 8 7,cL 9 8,aG 10 .gtr eT (aE 0),U 11 10,c5 12 11 true 0,bV 13 11 true (.cE dR),bl 14 11 true 0 13,bm 15 11 true 14,bV 16 11 true (.fW 4 dq (aE 0)),bl 17 11 true 1 16,bm 18 11 true 17,c5 19 11 true 1,cf 20 11 true .eql gU eS,bD 21 dy gy cG,U 22 21,c5 23 22 true 0,bV 24 22 true (.cE fv),bl 25 22 true 0 24,bm 26 22 true 25,bV 27 22 true (.fW 4 fA (aE 0)),bl 28 22 true 0 27,bm 29 22 true 28,cf 30 22 true .eql hE (aE 4),c5 31 22 true 30,c5 32 31 false 0,bV 33 31 false (.cE jz),bl 34 31 false 0 33,bm 35 31 false 34,bV 36 31 false (.fW 4 jA (aE 0)),bl 37 31 false 0 36,bm 38 31 false 37,cf 39 31 false .eql ku (aE 1),bV 40 22 true (.pick gH c6 lx),bD 41 fl kv cG,U 4 41])
def P1:List bk:=[.t 4]
theorem UA:bY Tryz.prog Tryz.f152 2 Jp P1=true:=by kernel_rfl
def Jq:bu:=
 ak [bx 2 (aE 0)] (aQ (ak [U 3 0,bi 4 87 [fm,be [45]]] (a8 4 (bd [U 5 0,bi 6 151 [eG,aE 2],aD 7 (.field false 2 1 dt),aD 8 (.neg dF),U 2 8]) .skip)) (bd [U 9 0,bi 10 151 [eT,aE 2],aD 11 (.field false 2 1 fi),U 2 11]))
def P2:List bk:=[.t 2]
theorem UB:bY Tryz.prog Tryz.f153 1 Jq P2=true:=by kernel_rfl
def Jr:bu:=
 ak [bx 2 (be [])] (ak [U 4 0,bi 5 86 [gq],U 3 5] (aQ (.block 0 (.loop (aQ (ak [U 6 0,bi 7 87 [dt,be [46]]] (a8 7 .skip (.exit 0))) (.block 1 (b1 [U 8 3,U 9 0,bi 10 86 [eT],aG 11 .add (be [46]) fi,aG 12 .add dI dy,U 3 12]))))) (bd [U 13 3,U 2 13])))
def P3:List bk:=[.t 2]
theorem UC:bY Tryz.prog Tryz.f154 1 Jr P3=true:=by kernel_rfl
def Js:bu:=
 ak [bx 2 (.c .aV)] (ak [U 4 0,bi 5 85 [gq,be [123]]] (ak [bx 3 (.c .aV)] (aQ (.block 0 (.loop (aQ (ak [U 6 0,bi 7 87 [dt,be [125]],fE 8 7] (a8 8 .skip (.exit 0))) (.block 1 (b1 [U 9 3,U 10 0,bi 11 190 [fi],aD 12 (.dA 133 11 1 [.int .i64 0,.str [],.int .i64 0,.str [],.str [],.str [],.int .i64 0,.aV,.int .i64 0,.aV,.aV] [(0,dy)]),aD 13 (.append 133 11 168 eT dR),U 3 13]))))) (bd [U 14 3,U 2 14]))))
def P4:List bk:=[.t 2]
theorem UD:bY Tryz.prog Tryz.f155 1 Js P4=true:=by kernel_rfl
def Jt:bu:=
 ak [aD 4 (.alloc 131 [.int .i64 0,.str [],.str [],.str [],.int .i64 0,.aV])] (ak [U 8 0,bi 9 191 [dI],aD 5 (.alloc 131 [.int .i64 0,.str [],.str [],.str [],.int .i64 0,.aV]),bZ 6 5 eT] (aQ (.block 0 (.loop (aQ (ak [U 10 0,aD 11 (.cE fi),aI 12 0 11,aM 13 12,cL 14 13,aG 15 .gtr fu (aE 0),U 16 15,c5 17 16 true 0,bV 18 16 true (.cE eA),bl 19 16 true 0 18,bm 20 16 true 19,bV 21 16 true (.fW 4 gy (aE 0)),bl 22 16 true 0 21,bm 23 16 true 22,cf 24 16 true .eql fv (aE 4),bD 25 fb fS cG] (a8 25 .skip (.exit 0))) (.block 1 (ak [U 26 0,aD 27 (.cE fA),aI 28 0 27,aM 29 28,cU 30 4 hE (aE 0),aI 31 1 30,aM 32 31,U 6 32] (ak [U 33 6,bi 34 175 [ib],U 7 34] (aQ (ak [U 35 7,U 36 1,aG 37 .lss jA ic] (a8 37 (.exit 0) .skip)) (ak [U 38 0,U 39 6,bi 40 85 [ku,lx]] (.region [U 41 6,aD 42 (.hr 5 true 6 eG),U 43 0,U 44 7,aG 45 .add mb (aE 1),aD 46 (.hM [5] 156 [jh,mJ]),aD 47 (.dA 131 6 2 [.int .i64 0,.str [],.str [],.str [],.int .i64 0,.aV] [(0,lN),(1,mK)]),aD 48 (.build [.int .i64 0,.str [],.str [],.str [],.int .i64 0,.aV] [(0,1,aE 6),(1,1,mI),(5,1,mL)]),bZ 6 5 ly] true))))))))) (bd [aD 49 (.hr 5 true 6 eG),bZ 6 4 oD])))
def P5:List bk:=[.cell true 6 4]
theorem UE:bY Tryz.prog Tryz.f156 2 Jt P5=true:=by kernel_rfl
def Jv:bu:=
 ak [bx 4 (aE 0)] (aQ (ak [U 6 0,cL 7 6,bx 8 (aE 0)] (.block 0 (.loop (ak [aG 9 .lss dI dF] (aQ (a8 9 .skip (.exit 0)) (aQ (.block 1 (ak [U 10 8,U 5 10] (ak [U 11 1,U 12 0,U 13 5,cU 14 7 dR dS,cr 15 7 14,aD 16 (.fw dy [dq])] (a8 16 (bd [U 17 5,U 4 17]) .skip)))) (b1 [aG 18 .add dI (aE 1),U 8 18]))))))) (bd [bx 4 (aE (-1))]))
def P8:List bk:=[.t 4]
theorem UH:bY Tryz.prog Tryz.f160 2 Jv P8=true:=by kernel_rfl
def Jw:bu:=
 (.seq
 (.region [aD 4 (.hs (.c (.bool false)))] false)
 (.seq
 (.region [aD 5 (.hs (.t 0)),aD 6 (.hs (.t 1)),aD 7 (.call 193 [(.t 5),(.t 6)]),aD 8 (.bin .geq (.t 7) (.c (.int .i64 0))),aD 4 (.hs (.t 8))] false)
 .ret))
def P9:List bk:=[.t 4]
theorem UI:bY Tryz.prog Tryz.f161 2 Jw P9=true:=by kernel_rfl
def Jx:bu:=
 (.seq
 (.region [aD 2 (.hs (.c (.bool false)))] false)
 (.seq
 (.region [aD 3 (.hs (.t 0)),aD 4 (.bin .lss (.t 3) (.c (.int .i32 32))),aD 5 (.hs (.t 4)),bV 6 5 false (.hs (.t 0)),bV 7 5 false (.bin .gtr (.t 6) (.c (.int .i32 126))),aD 8 (.pick (.t 5) (.c (.bool true)) (.t 7)),aD 2 (.hs (.t 8))] false)
 .ret))
def Qa:List bk:=[.t 2]
theorem UJ:bY Tryz.prog Tryz.f162 1 Jx Qa=true:=by kernel_rfl
def Jy:bu:=
 ak [bx 4 (aE 0)] (aQ (ak [U 6 0,cL 7 6,bx 8 (aE 0)] (.block 0 (.loop (ak [aG 9 .lss dI dF] (aQ (a8 9 .skip (.exit 0)) (aQ (.block 1 (ak [U 10 8,U 5 10] (ak [U 11 1,U 12 0,U 13 5,cU 14 4 dR dS,cr 15 4 14,aD 16 (.fw dy [dq])] (a8 16 (bd [U 17 5,U 4 17]) .skip)))) (b1 [aG 18 .add dI (aE 1),U 8 18]))))))) (bd [bx 4 (aE (-1))]))
def Qb:List bk:=[.t 4]
theorem UK:bY Tryz.prog Tryz.f163 2 Jy Qb=true:=by kernel_rfl
def Jz:bu:=
 ak [bx 2 (.c .aV)] (ak [bx 3 (aE 0)] (aQ (ak [U 9 0,cL 10 9,bx 11 (aE 0)] (.block 0 (.loop (ak [aG 12 .lss dy fi] (aQ (a8 12 .skip (.exit 0)) (aQ (.block 1 (ak [cU 13 1 eT dy,aM 14 13,U 5 14] (ak [U 15 3,U 16 5,cL 17 16,aG 18 .add dq eA,U 3 18] (ak [U 19 3,aG 20 .lss eS (aE 0)] (a8 20 (b1 [aD 21 (.o5 9 (be [108,101,110,32,111,117,116,32,111,102,32,114,97,110,103,101])),lE (.panic fc)]) .skip))))) (b1 [aG 22 .add dy (aE 1),U 11 22]))))))) (ak [U 23 3,bi 24 194 [.c .aV,fv],U 6 24] (aQ (ak [U 25 0,cL 26 25,bx 27 (aE 0)] (.block 2 (.loop (ak [aG 28 .lss gG fA] (aQ (a8 28 .skip (.exit 2)) (aQ (.block 3 (ak [cU 29 1 ha gG,aM 30 29,U 8 30] (b1 [U 31 6,U 32 8,aD 33 (.append 133 11 168 gH jz),U 6 33]))) (b1 [aG 34 .add gG (aE 1),U 27 34]))))))) (bd [U 35 6,U 2 35])))))
def Qc:List bk:=[.t 2]
theorem UL:bY Tryz.prog Tryz.f164 1 Jz Qc=true:=by kernel_rfl
def DB:bu:=
 ak [ci 4] (bd [U 5 0,U 6 1,bi 7 195 [eG,dt],aG 8 .geq dF (aE 0),U 4 8])
def FI:List bk:=[.t 4]
theorem HH:bY Tryz.prog Tryz.f165 2 DB FI=true:=by kernel_rfl
def JA:bu:=
 ak [ci 2] (bd [U 3 0,bi 4 45 [fm],fE 5 4,U 2 5])
def Qd:List bk:=[.t 2]
theorem UM:bY Tryz.prog Tryz.f167 1 JA Qd=true:=by kernel_rfl
def JB:bu:=
 ak [ci 3] (bd [aM 4 1,U 5 0,aD 6 (.fw gq [eG]),fE 7 6,U 3 7])
def Qe:List bk:=[.t 3]
theorem UN:bY Tryz.prog Tryz.f168 1 JB Qe=true:=by kernel_rfl
def JC:bu:=
 ak [ci 4] (bd [U 5 0,U 6 1,bi 7 197 [eG,dt],aG 8 .geq dF (aE 0),U 4 8])
def Qf:List bk:=[.t 4]
theorem UO:bY Tryz.prog Tryz.f169 2 JC Qf=true:=by kernel_rfl
def JE:bu:=
 ak [aD 2 (.box 133 gp),ci 3] (bd [aM 4 1,cr 5 11 2,aD 6 (.fw gq [eG]),fE 7 6,U 3 7])
def Qh:List bk:=[.t 3]
theorem UQ:bY Tryz.prog Tryz.f170 1 JE Qh=true:=by kernel_rfl
def JF:bu:=
 ak [bx 4 (aE 0)] (aQ (ak [U 6 0,cL 7 6,bx 8 (aE 0)] (.block 0 (.loop (ak [aG 9 .lss dI dF] (aQ (a8 9 .skip (.exit 0)) (aQ (.block 1 (ak [U 10 8,U 5 10] (ak [U 11 1,U 12 0,U 13 5,cU 14 4 dR dS,cr 15 4 14,aD 16 (.fw dy [dq])] (a8 16 (bd [U 17 5,U 4 17]) .skip)))) (b1 [aG 18 .add dI (aE 1),U 8 18]))))))) (bd [bx 4 (aE (-1))]))
def Qi:List bk:=[.t 4]
theorem UR:bY Tryz.prog Tryz.f171 2 JF Qi=true:=by kernel_rfl
def JG:bu:=
 ak [ci 4] (bd [U 5 0,U 6 1,bi 7 198 [eG,dt],aG 8 .geq dF (aE 0),U 4 8])
def Qj:List bk:=[.t 4]
theorem US:bY Tryz.prog Tryz.f173 2 JG Qj=true:=by kernel_rfl
def JH:bu:=
 ak [aD 2 (.box 131 gp),ci 3] (bd [aM 4 1,cr 5 6 2,aD 6 (.fw gq [eG]),fE 7 6,U 3 7])
def Qk:List bk:=[.t 3]
theorem UT:bY Tryz.prog Tryz.f174 1 JH Qk=true:=by kernel_rfl
def JI:bu:=
 ak [bx 2 (aE 0)] (aQ (ak [U 3 0] (.block 0 (ak [aG 5 .eql fm (be [124,124]),U 4 5] (a8 4 (bd [bx 2 (aE 1)]) (ak [aG 7 .eql fm (be [38,38]),U 6 7] (a8 6 (bd [bx 2 (aE 2)]) (aQ (ak [aG 9 .eql fm (be [61,61]),U 8 9] (a8 8 .skip (b1 [aG 10 .eql fm (be [33,61]),U 8 10]))) (a8 8 (bd [bx 2 (aE 3)]) (aQ (ak [aG 12 .eql fm (be [60]),U 11 12] (a8 11 .skip (ak [aG 13 .eql fm (be [60,61]),U 11 13] (a8 11 .skip (ak [aG 14 .eql fm (be [62]),U 11 14] (a8 11 .skip (b1 [aG 15 .eql fm (be [62,61]),U 11 15]))))))) (a8 11 (bd [bx 2 (aE 4)]) (aQ (ak [aG 17 .eql fm (be [43]),U 16 17] (a8 16 .skip (b1 [aG 18 .eql fm (be [45]),U 16 18]))) (a8 16 (bd [bx 2 (aE 5)]) (aQ (ak [aG 20 .eql fm (be [42]),U 19 20] (a8 19 .skip (ak [aG 21 .eql fm (be [47]),U 19 21] (a8 19 .skip (b1 [aG 22 .eql fm (be [37]),U 19 22]))))) (a8 19 (bd [bx 2 (aE 6)]) .skip)))))))))))))) (bd [bx 2 (aE 0)]))
def Ql:List bk:=[.t 2]
theorem UU:bY Tryz.prog Tryz.f175 1 JI Ql=true:=by kernel_rfl
def JJ:bu:=
 ak [bx 4 (aE 0),bx 5 (.c (.dQ .nilIface))] (ak [U 6 0,bi 7 199 [dt]] (ak [U 8 0,U 9 0,aD 10 (.cE eT),aI 11 1 10,aM 12 11,U 13 1,aD 14 (.append 5 1 1 dR dS),aD 15 (.cE dI),aI 16 1 15,bZ 1 16 fu] (bd [U 17 1,aD 18 (.fQ eA),U 4 18,bx 5 (.c (.dQ .nilIface))])))
def Qm:List bk:=[.t 4,.t 5]
theorem UW:bY Tryz.prog Tryz.f176 2 JJ Qm=true:=by kernel_rfl
def JK:bu:=
 ak [bx 4 (.c (.dQ .nilIface))] (ak [U 5 0,bi 6 199 [eG]] (ak [U 7 0,U 8 0,aD 9 (.cE dI),aI 10 1 9,aM 11 10,U 12 1,aD 13 (.dA 5 1 1 [.int .u8 0] [(0,dR)]),aD 14 (.append 5 1 1 dy dS),aD 15 (.cE dF),aI 16 1 15,bZ 1 16 fu] (bd [bx 4 (.c (.dQ .nilIface))])))
def Qn:List bk:=[.t 4]
theorem UX:bY Tryz.prog Tryz.f178 2 JK Qn=true:=by kernel_rfl
def AL:bu:=
 ak [aD 3 (.box 133 ls)] (ak [aI 5 0 3,aM 6 5] (.block 0 (ak [aG 49 .eql dt (aE 1),U 48 49] (a8 48 (.region [U 50 0,aI 51 1 3,aM 52 51,aI 53 2 3,cr 54 6 53,fI 55 127 [kX],aD 56 (.dA 9 1 4 [.str []] [(0,ns),(1,be [32,61,32]),(2,lO),(3,be [59])]),bi 57 122 [kw,kx]] true) (ak [aG 59 .eql dt (aE 3),U 58 59] (a8 58 (aQ (.region [U 60 0,aI 61 2 3,cr 62 6 61,fI 63 127 [sh],aI 64 8 3,aM 65 64,fI 66 123 [oF],aD 67 (.dA 9 1 5 [.str []] [(0,be [119,104,105,108,101,32]),(1,q5),(2,be [32,116,105,109,101,115,32]),(3,p7),(4,be [32,123])]),bi 68 122 [lP,q6]] true) (ak [U 69 0,aI 70 9 3,aM 71 70,bi 72 126 [q7,q8]] (b1 [U 73 0,aD 74 (.dA 9 1 1 [.str []] [(0,be [125])]),bi 75 122 [sj,tx]]))) (ak [bx 4 (be [105,102,32])] (aQ (.block 1 (.loop (.block 2 (ak [U 7 0,U 8 4,aI 9 2 3,cr 10 6 9,bi 11 127 [fi],aD 12 (.dA 9 1 3 [.str []] [(0,dI),(1,dy),(2,be [32,123])]),bi 13 122 [dF,dR]] (ak [U 14 0,aI 15 9 3,aM 16 15,bi 17 126 [fu,fb]] (aQ (ak [aI 18 10 3,aM 19 18,cL 20 19,aG 21 .neq gy (aE 1),U 22 21,bl 23 22 false 10 3,bm 24 22 false 23,bV 25 22 false (.fW 11 fS (aE 0)),bl 26 22 false 0 25,bm 27 22 false 26,cf 28 22 false .neq gG (aE 2),bD 29 fl c6 fB] (a8 29 (.exit 1) .skip)) (b1 [aI 30 10 3,aM 31 30,cU 32 11 gH (aE 0),cr 33 11 32,bZ 11 3 ib,bx 4 (be [125,32,101,108,115,101,32,105,102,32])]))))))) (aQ (ak [aI 34 10 3,aM 35 34,cL 36 35,aG 37 .gtr ic (aE 0)] (a8 37 (ak [U 38 0,aD 39 (.dA 9 1 1 [.str []] [(0,be [125,32,101,108,115,101,32,123])]),bi 40 122 [ku,lx]] (b1 [U 41 0,aI 42 10 3,aM 43 42,bi 44 126 [mI,jh]])) .skip)) (b1 [U 45 0,aD 46 (.dA 9 1 1 [.str []] [(0,be [125])]),bi 47 122 [mJ,mK]]))))))))))
def Cd:List bk:=[]
theorem Dd:bY Tryz.prog Tryz.f182 2 AL Cd=true:=by kernel_rfl
def AM:bu:=
 ak [aD 2 (.box 131 gp),bx 4 (be [])] (aQ (ak [aI 5 0 2,aM 6 5,aG 7 .eql dt (aE 6),U 8 7,bl 9 8 true 1 2,bm 10 8 true 9,dN 11 8 true 175 [fi],c5 12 8 true 1,cf 13 8 true .lss dy dR,bD 14 dI dS cG] (a8 14 (bd [cr 15 6 2,bi 16 127 [dq],aG 17 .add (be [40]) fb,aG 18 .add eA (be [41]),U 4 18]) .skip)) (bd [cr 19 6 2,bi 20 127 [eS],U 4 20]))
def Ce:List bk:=[.t 4]
theorem De:bY Tryz.prog Tryz.f183 2 AM Ce=true:=by kernel_rfl
def JP:bu:=
 ak [aD 2 (.alloc 133 [.int .i64 0,.str [],.int .i64 0,.str [],.str [],.str [],.int .i64 0,.aV,.int .i64 0,.aV,.aV])] (aQ (.block 0 (ak [U 6 0,bi 7 87 [dt,be [105,102]],U 5 7] (a8 5 (bd [U 8 0,bi 9 209 [dI],bZ 11 2 eT]) (ak [U 11 0,bi 12 87 [dy,be [119,104,105,108,101]],U 10 12] (a8 10 (ak [U 13 0,bi 14 156 [dS,aE 1],aD 15 (.build [.int .i64 0,.str [],.int .i64 0,.str [],.str [],.str [],.int .i64 0,.aV,.int .i64 0,.aV,.aV] [(0,1,aE 3),(2,6,fu)]),aD 3 (.alloc 133 [.int .i64 0,.str [],.int .i64 0,.str [],.str [],.str [],.int .i64 0,.aV,.int .i64 0,.aV,.aV]),bZ 11 3 dq] (ak [U 16 0,bi 17 85 [fb,be [116,105,109,101,115]]] (aQ (ak [U 18 0,aD 19 (.cE gU),aI 20 0 19,aM 21 20,cL 22 21,aG 23 .gtr fl (aE 0),U 24 23,c5 25 24 true 0,bV 26 24 true (.cE ha),bl 27 24 true 0 26,bm 28 24 true 27,bV 29 24 true (.fW 4 fB (aE 0)),bl 30 24 true 0 29,bm 31 24 true 30,cf 32 24 true .eql gH (aE 2),bD 33 fS jz cG,U 34 33,c5 35 34 true 0,bV 36 34 true (.cE jA),bl 37 34 true 0 36,bm 38 34 true 37,bV 39 34 true (.fW 4 ku (aE 0)),bl 40 34 true 2 39,bm 41 34 true 40,cf 42 34 true .lss mI (aE 1),c5 43 34 true 42,c5 44 43 false 0,bV 45 43 false (.cE mb),bl 46 43 false 0 45,bm 47 43 false 46,bV 48 43 false (.fW 4 mL (aE 0)),bl 49 43 false 2 48,bm 50 43 false 49,cf 51 43 false .gtr kw (aE 50),bV 52 34 true (.pick jh c6 lz),bD 53 lu ns cG] (a8 53 (b1 [U 54 0,bi 55 91 [kX,aE 2]]) .skip)) (ak [U 56 0,bi 57 151 [kx,aE 2],aD 58 (.field false 2 1 nt),aI 59 8 3,bZ 1 59 kY] (ak [U 60 0,bi 61 155 [lP],aI 62 9 3,bZ 1 62 tv] (bd [cr 63 11 3,bZ 11 2 q5])))))) .skip))))) (ak [U 64 0,bi 65 86 [oE],aD 66 (.build [.int .i64 0,.str [],.int .i64 0,.str [],.str [],.str [],.int .i64 0,.aV,.int .i64 0,.aV,.aV] [(0,1,aE 1),(1,1,oF)]),aD 4 (.alloc 133 [.int .i64 0,.str [],.int .i64 0,.str [],.str [],.str [],.int .i64 0,.aV,.int .i64 0,.aV,.aV]),bZ 11 4 p7] (ak [U 67 0,bi 68 85 [q6,be [61]]] (ak [U 69 0,bi 70 156 [q7,aE 1],aI 71 2 4,bZ 6 71 p8] (ak [U 72 0,bi 73 85 [tw,be [59]]] (bd [cr 74 11 4,bZ 11 2 tx]))))))
def Qu:List bk:=[.cell true 11 2]
theorem U3:bY Tryz.prog Tryz.f190 1 JP Qu=true:=by kernel_rfl
def JQ:bu:=
 ak [aD 2 (.alloc 131 [.int .i64 0,.str [],.str [],.str [],.int .i64 0,.aV])] (aQ (.block 0 (ak [U 6 0,bi 7 87 [dt,be [40]],U 5 7] (a8 5 (ak [U 8 0,bi 9 156 [dI,aE 1],aD 3 (.alloc 131 [.int .i64 0,.str [],.str [],.str [],.int .i64 0,.aV]),bZ 6 3 eT] (ak [U 10 0,bi 11 85 [fi,be [41]]] (bd [cr 12 6 3,bZ 6 2 dR]))) (ak [U 14 0,bi 15 87 [fu,be [108,101,110]],U 13 15] (a8 13 (ak [U 16 0,bi 17 85 [fb,be [40]]] (ak [U 18 0,bi 19 156 [gU,aE 1],aD 20 (.dA 131 6 1 [.int .i64 0,.str [],.str [],.str [],.int .i64 0,.aV] [(0,eS)]),aD 21 (.build [.int .i64 0,.str [],.str [],.str [],.int .i64 0,.aV] [(0,1,aE 4),(5,1,gy)]),aD 4 (.alloc 131 [.int .i64 0,.str [],.str [],.str [],.int .i64 0,.aV]),bZ 6 4 fc] (ak [U 22 0,bi 23 85 [fl,be [41]]] (bd [cr 24 6 4,bZ 6 2 fS])))) (ak [U 26 0,bi 27 87 [fA,be [45]],U 25 27] (a8 25 (bd [U 28 0,bi 29 191 [fB],aD 30 (.dA 131 6 1 [.int .i64 0,.str [],.str [],.str [],.int .i64 0,.aV] [(0,hE)]),aD 31 (.build [.int .i64 0,.str [],.str [],.str [],.int .i64 0,.aV] [(0,1,aE 5),(1,1,be [45]),(5,1,jg)]),bZ 6 2 gH]) (ak [U 33 0,bi 34 87 [ib,be [33]],U 32 34] (a8 32 (bd [U 35 0,bi 36 191 [jA],aD 37 (.dA 131 6 1 [.int .i64 0,.str [],.str [],.str [],.int .i64 0,.aV] [(0,ic)]),aD 38 (.build [.int .i64 0,.str [],.str [],.str [],.int .i64 0,.aV] [(0,1,aE 5),(1,1,be [33]),(5,1,j4)]),bZ 6 2 ku]) (ak [U 40 0,bi 41 150 [kv],U 39 41] (a8 39 (bd [U 42 0,bi 43 86 [lN],aD 44 (.build [.int .i64 0,.str [],.str [],.str [],.int .i64 0,.aV] [(0,1,aE 3),(2,1,jh)]),bZ 6 2 mb]) (ak [U 46 0,aD 47 (.cE mK),aI 48 0 47,aM 49 48,cL 50 49,aG 51 .gtr kw (aE 0),U 52 51,c5 53 52 true 0,bV 54 52 true (.cE nX),bl 55 52 true 0 54,bm 56 52 true 55,bV 57 52 true (.fW 4 kx (aE 0)),bl 58 52 true 0 57,bm 59 52 true 58,cf 60 52 true .eql tu (aE 3),bD 61 ns lP cG,U 45 61] (a8 45 (bd [U 62 0,bi 63 151 [sh,aE 3],aD 64 (.field false 1 1 q5),aD 65 (.build [.int .i64 0,.str [],.str [],.str [],.int .i64 0,.aV] [(0,1,aE 2),(3,1,oE)]),bZ 6 2 oF]) (ak [U 67 0,aD 68 (.cE q6),aI 69 0 68,aM 70 69,cL 71 70,aG 72 .gtr q8 (aE 0),U 73 72,c5 74 73 true 0,bV 75 73 true (.cE tx),bl 76 73 true 0 75,bm 77 73 true 76,bV 78 73 true (.fW 4 sk (aE 0)),bl 79 73 true 0 78,bm 80 73 true 79,cf 81 73 true .eql xW (aE 2),bD 82 sj xX cG,U 83 82,c5 84 83 true 0,bV 85 83 true (.cE xY),bl 86 83 true 0 85,bm 87 83 true 86,bV 88 83 true (.fW 4 CD (aE 0)),bl 89 83 true 2 88,bm 90 83 true 89,cf 91 83 true .gtr zS (aE 1000),bD 92 sl wg cG,U 66 92] (a8 66 (b1 [U 93 0,bi 94 91 [x0,aE 2]]) .skip))))))))))))))) (bd [U 95 0,bi 96 151 [x1,aE 2],aD 97 (.field false 2 1 x2),aD 98 (.build [.int .i64 0,.str [],.str [],.str [],.int .i64 0,.aV] [(0,1,aE 1),(4,1,CE)]),bZ 6 2 x3]))
def Qv:List bk:=[.cell true 6 2]
theorem U4:bY Tryz.prog Tryz.f191 1 JQ Qv=true:=by kernel_rfl
def JR:bu:=
 (.seq
 (.region [aD 4 (.hs (.c (.int .i64 0)))] false)
 (.seq
 (.region [aD 5 (.hs (.t 0)),aD 6 (.hs (.t 1)),aD 7 (.call 210 [(.t 5),(.t 6),(.c (.bool true))]),aD 4 (.hs (.t 7))] false)
 .ret))
def Qw:List bk:=[.t 4]
theorem U5:bY Tryz.prog Tryz.f193 2 JR Qw=true:=by kernel_rfl
def DC:bu:=
 ak [bx 4 (aE 0)] (aQ (ak [U 6 0,cL 7 6,bx 8 (aE 0)] (.block 0 (.loop (ak [aG 9 .lss dI dF] (aQ (a8 9 .skip (.exit 0)) (aQ (.block 1 (ak [U 10 8,U 5 10] (ak [U 11 1,U 12 0,U 13 5,cU 14 1 dR dS,aM 15 14,aD 16 (.fw dy [dq])] (a8 16 (bd [U 17 5,U 4 17]) .skip)))) (b1 [aG 18 .add dI (aE 1),U 8 18]))))))) (bd [bx 4 (aE (-1))]))
def FJ:List bk:=[.t 4]
theorem HI:bY Tryz.prog Tryz.f195 2 DC FJ=true:=by kernel_rfl
def JS:bu:=
 ak [bx 4 (aE 0)] (aQ (ak [U 6 0,cL 7 6,bx 8 (aE 0)] (.block 0 (.loop (ak [aG 9 .lss dI dF] (aQ (a8 9 .skip (.exit 0)) (aQ (.block 1 (ak [U 10 8,U 5 10] (ak [U 11 1,U 12 0,U 13 5,cU 14 11 dR dS,cr 15 11 14,aD 16 (.fw dy [dq])] (a8 16 (bd [U 17 5,U 4 17]) .skip)))) (b1 [aG 18 .add dI (aE 1),U 8 18]))))))) (bd [bx 4 (aE (-1))]))
def Qx:List bk:=[.t 4]
theorem U6:bY Tryz.prog Tryz.f197 2 JS Qx=true:=by kernel_rfl
def JT:bu:=
 ak [bx 4 (aE 0)] (aQ (ak [U 6 0,cL 7 6,bx 8 (aE 0)] (.block 0 (.loop (ak [aG 9 .lss dI dF] (aQ (a8 9 .skip (.exit 0)) (aQ (.block 1 (ak [U 10 8,U 5 10] (ak [U 11 1,U 12 0,U 13 5,cU 14 6 dR dS,cr 15 6 14,aD 16 (.fw dy [dq])] (a8 16 (bd [U 17 5,U 4 17]) .skip)))) (b1 [aG 18 .add dI (aE 1),U 8 18]))))))) (bd [bx 4 (aE (-1))]))
def Qy:List bk:=[.t 4]
theorem U7:bY Tryz.prog Tryz.f198 2 JT Qy=true:=by kernel_rfl
def JU:bu:=
 ak [aD 2 (.alloc 133 [.int .i64 0,.str [],.int .i64 0,.str [],.str [],.str [],.int .i64 0,.aV,.int .i64 0,.aV,.aV])] (ak [U 4 0,bi 5 156 [gq,aE 1],aD 6 (.build [.int .i64 0,.str [],.int .i64 0,.str [],.str [],.str [],.int .i64 0,.aV,.int .i64 0,.aV,.aV] [(0,1,aE 2),(2,6,eG)]),aD 3 (.alloc 133 [.int .i64 0,.str [],.int .i64 0,.str [],.str [],.str [],.int .i64 0,.aV,.int .i64 0,.aV,.aV]),bZ 11 3 dt] (ak [U 7 0,bi 8 155 [dF],aI 9 9 3,bZ 1 9 dI] (aQ (ak [U 10 0,bi 11 87 [fi,be [101,108,115,101]]] (a8 11 (ak [U 12 0,bi 13 87 [dR,be [105,102]]] (a8 13 (b1 [U 14 0,bi 15 209 [fu],aD 16 (.dA 133 11 1 [.int .i64 0,.str [],.int .i64 0,.str [],.str [],.str [],.int .i64 0,.aV,.int .i64 0,.aV,.aV] [(0,dq)]),aI 17 10 3,bZ 1 17 fb]) (b1 [U 18 0,bi 19 155 [gU],aI 20 10 3,bZ 1 20 eS]))) .skip)) (bd [cr 21 11 3,bZ 11 2 fc]))))
def Qz:List bk:=[.cell true 11 2]
theorem U8:bY Tryz.prog Tryz.f209 1 JU Qz=true:=by kernel_rfl
def J3:bu:=
 (.seq
 (.region [aD 2 (.hs (.c (.bool false)))] false)
 (.seq
 (.region [aD 4 (.build [.str [],.str [],.str [],.str [],.str [],.str [],.str [],.str [],.str [],.str [],.str [],.str [],.str [],.str [],.str [],.str [],.str [],.str [],.str [],.str [],.str [],.str [],.str [],.str [],.str [],.str [],.str [],.str []] [(0,1,(.c (.str [97,103,97,105,110]))),(1,1,(.c (.str [97,110,100]))),(2,1,(.c (.str [97,115]))),(3,1,(.c (.str [97,116]))),(4,1,(.c (.str [99,97,108,108]))),(5,1,(.c (.str [99,104,111,105,99,101]))),(6,1,(.c (.str [101,108,115,101]))),(7,1,(.c (.str [102,114,111,109]))),(8,1,(.c (.str [105,102]))),(9,1,(.c (.str [105,110,116]))),(10,1,(.c (.str [108,101,110]))),(11,1,(.c (.str [108,111,111,112]))),(12,1,(.c (.str [109,101,115,115,97,103,101]))),(13,1,(.c (.str [111,102]))),(14,1,(.c (.str [111,102,102,101,114]))),(15,1,(.c (.str [111,110]))),(16,1,(.c (.str [111,114]))),(17,1,(.c (.str [112,97,114]))),(18,1,(.c (.str [112,108,97,121,115]))),(19,1,(.c (.str [112,114,111,116,111,99,111,108]))),(20,1,(.c (.str [115,101,114,118,105,99,101]))),(21,1,(.c (.str [116,101,120,116]))),(22,1,(.c (.str [116,105,109,101,115]))),(23,1,(.c (.str [116,111]))),(24,1,(.c (.str [118,97,114]))),(25,1,(.c (.str [119,104,101,114,101]))),(26,1,(.c (.str [119,104,105,108,101]))),(27,1,(.c (.str [119,105,116,104,105,110])))]),aD 3 (.alloc 166 [.str [],.str [],.str [],.str [],.str [],.str [],.str [],.str [],.str [],.str [],.str [],.str [],.str [],.str [],.str [],.str [],.str [],.str [],.str [],.str [],.str [],.str [],.str [],.str [],.str [],.str [],.str [],.str []]),lE (.store 28 (.t 3) (.t 4))] false)
 (.seq
 (.region [aD 5 (.hs (.t 0)),aD 6 (.call 101 [(.t 5)]),aD 7 (.hs (.t 6)),bV 8 7 true (.xP 28 1 (.t 3)),bV 9 7 true (.hs (.t 0)),bV 10 7 true (.call 102 [(.t 8),(.t 9)]),bV 11 7 true (.not (.t 10)),aD 12 (.pick (.t 7) (.t 11) (.c (.bool false))),aD 2 (.hs (.t 12))] false)
 .ret)))
def QL:List bk:=[.t 2]
theorem Vk:bY Tryz.prog Tryz.f45 1 J3 QL=true:=by kernel_rfl
def Dz:bu:=
 ak [ci 2] (aQ (ak [U 4 0,aG 5 .eql gq (be []),U 6 5,c5 7 6 false 0,bV 8 6 false (.fQ dF),cf 9 6 false .gtr dI (aE 16),bD 10 dt c6 eT,U 11 10,c5 12 11 false 0,bV 13 11 false (.eJ dR (aE 0)),dN 14 11 false 80 [dS],bV 15 11 false (.not fu),bD 16 dy c6 dq] (a8 16 (bd [ci 2]) .skip)) (aQ (ak [U 17 0,aD 18 (.fQ eA),bx 19 (aE 0)] (.block 0 (.loop (ak [aG 20 .lss eS gU] (aQ (a8 20 .skip (.exit 0)) (aQ (.block 1 (ak [U 21 19,U 3 21] (ak [U 22 0,U 23 3,aD 24 (.eJ fl fv),bi 25 149 [fS],fE 26 25] (a8 26 (bd [ci 2]) .skip)))) (b1 [aG 27 .add eS (aE 1),U 19 27]))))))) (bd [l3 2])))
def FG:List bk:=[.t 2]
theorem HF:bY Tryz.prog Tryz.f101 1 Dz FG=true:=by kernel_rfl
def II:bu:=
 ak [ci 4] (bd [U 5 0,U 6 1,bi 7 159 [eG,dt],aG 8 .geq dF (aE 0),U 4 8])
def Pj:List bk:=[.t 4]
theorem TS:bY Tryz.prog Tryz.f102 2 II Pj=true:=by kernel_rfl
def wM:bu:=
 ak [ci 4] (bd [U 5 0,U 6 1,bi 7 187 [eG,dt],U 4 7])
def PV:List bk:=[.t 4]
theorem Uu:bY Tryz.prog Tryz.f145 2 wM PV=true:=by kernel_rfl
def Ju:bu:=
 ak [bx 4 (aE 0)] (aQ (ak [U 6 0,cL 7 6,bx 8 (aE 0)] (.block 0 (.loop (ak [aG 9 .lss dI dF] (aQ (a8 9 .skip (.exit 0)) (aQ (.block 1 (ak [U 10 8,U 5 10] (ak [U 11 1,U 12 0,U 13 5,cU 14 1 dR dS,aM 15 14,aG 16 .eql dy dq] (a8 16 (bd [U 17 5,U 4 17]) .skip)))) (b1 [aG 18 .add dI (aE 1),U 8 18]))))))) (bd [bx 4 (aE (-1))]))
def P6:List bk:=[.t 4]
theorem UF:bY Tryz.prog Tryz.f159 2 Ju P6=true:=by kernel_rfl
def JN:bu:=
 ak [ci 4] (bd [U 5 0,aD 6 (.fQ eG),U 7 1,aD 8 (.fQ dF),aG 9 .geq dt dI,U 10 9,c5 11 10 true 0,c5 12 10 true 1,bV 13 10 true (.fQ dR),bV 14 10 true (.gE dy none (some dS)),c5 15 10 true 1,cf 16 10 true .eql fu dq,bD 17 fi fb cG,U 4 17])
def Qs:List bk:=[.t 4]
theorem U1:bY Tryz.prog Tryz.f187 2 JN Qs=true:=by kernel_rfl
def Kv:bu:=
 ak [aD 2 (.alloc 152 [.int .i64 0,.str [],.int .i64 0,.int .i64 0]),bx 3 (aE 0)] (ak [bx 4 (.c .aV)] (aQ (ak [U 6 0,aD 7 (.cE dt),aI 8 1 7,aM 9 8,aG 10 .add eT (aE 1),aD 11 (.cE dt),aI 12 1 11,bZ 1 12 fi] (.block 0 (.loop (aQ (aQ (.region [U 13 0,aD 14 (.cE dS),aI 15 1 14,aM 16 15,U 17 0,aD 18 (.cE eA),aI 19 0 18,aM 20 19,aD 21 (.fQ gy),aG 22 .lss fb fc] true) (a8 22 .skip (.exit 0))) (aQ (.block 1 (aQ (.region [U 30 0,aD 31 (.cE jg),aI 32 0 31,aM 33 32,U 34 0,aD 35 (.cE lu),aI 36 1 35,aM 37 36,aD 38 (.eJ ib j4),U 5 38] true) (aQ (ak [U 39 5,aG 40 .eql lx (.c (.int .u8 34))] (a8 40 (ak [U 41 0,aD 42 (.cE mI),aI 43 1 42,aM 44 43,aG 45 .add mb (aE 1),aD 46 (.cE mI),aI 47 1 46,bZ 1 47 mJ] (aQ (ak [U 48 4,cL 49 48,aG 50 .gtr oD (aE 40)] (a8 50 (bd [aD 51 (.build [.int .i64 0,.str [],.int .i64 0,.int .i64 0] []),bZ 4 2 lz,bx 3 (aE 6)]) .skip)) (bd [U 52 4,aD 53 (.k8 false ns),aD 54 (.build [.int .i64 0,.str [],.int .i64 0,.int .i64 0] [(0,1,aE 3),(1,1,nX)]),bZ 4 2 kX,bx 3 (aE 0)]))) .skip)) (aQ (ak [U 55 5,aG 56 .eql lO (.c (.int .u8 92))] (a8 56 (ak [U 57 0,aD 58 (.cE nt),aI 59 1 58,aM 60 59,aG 61 .add lP (aE 1),aD 62 (.cE nt),aI 63 1 62,bZ 1 63 tv] (aQ (aQ (.region [U 64 0,aD 65 (.cE oE),aI 66 1 65,aM 67 66,U 68 0,aD 69 (.cE si),aI 70 0 69,aM 71 70,aD 72 (.fQ q8),aG 73 .eql q6 tw,U 74 73,c5 75 74 false 0,bV 76 74 false (.cE v8),bl 77 74 false 0 76,bm 78 74 false 77,c5 79 74 false 0,bV 80 74 false (.cE wa),bl 81 74 false 1 80,bm 82 74 false 81,bV 83 74 false (.eJ CC wb),cf 84 74 false .neq sl (.c (.int .u8 34)),c5 85 74 false 84,c5 86 85 true 0,bV 87 85 true (.cE uT),bl 88 85 true 0 87,bm 89 85 true 88,c5 90 85 true 0,bV 91 85 true (.cE zS),bl 92 85 true 1 91,bm 93 85 true 92,bV 94 85 true (.eJ xZ x0),cf 95 85 true .neq zT (.c (.int .u8 92)),bV 96 74 false (.pick wc x1 cG),bD 97 tx c6 x2] true) (a8 97 (bd [aD 98 (.build [.int .i64 0,.str [],.int .i64 0,.int .i64 0] []),bZ 4 2 x3,bx 3 (aE 3)]) .skip)) (.region [U 99 0,aD 100 (.cE GA),aI 101 0 100,aM 102 101,U 103 0,aD 104 (.cE zL),aI 105 1 104,aM 106 105,aD 107 (.eJ xV zM),U 5 107] true))) .skip)) (aQ (ak [U 108 5,aG 109 .lss Gn (.c (.int .u8 32)),U 110 109,c5 111 110 false 5,cf 112 110 false .gtr Cz (.c (.int .u8 126)),bD 113 Cy c6 CA] (a8 113 (bd [aD 114 (.build [.int .i64 0,.str [],.int .i64 0,.int .i64 0] []),bZ 4 2 Gp,bx 3 (aE 3)]) .skip)) (b1 [U 115 4,U 116 5,aD 117 (.dA 5 1 1 [.int .u8 0] [(0,Gq)]),aD 118 (.append 5 1 1 zP CB),U 4 118])))))) (b1 [U 23 0,aD 24 (.cE fv),aI 25 1 24,aM 26 25,aG 27 .add fA (aE 1),aD 28 (.cE fv),aI 29 1 28,bZ 1 29 gG])))))) (bd [aD 119 (.build [.int .i64 0,.str [],.int .i64 0,.int .i64 0] []),bZ 4 2 Gr,bx 3 (aE 3)])))
def Rl:List bk:=[.cell true 4 2,.t 3]
theorem VS:bY Tryz.prog Tryz.f84 1 Kv Rl=true:=by kernel_rfl
def JL:bu:=
 ak [bx 2 (be [])] (ak [aD 3 (.alloc 180 [.dQ (.pointer none),.aV])] (ak [bi 5 178 [fm,.c (.int .u8 34)]] (aQ (ak [U 6 0,aD 7 (.fQ dt),bx 8 (aE 0)] (.block 0 (.loop (ak [aG 9 .lss dI dF] (aQ (a8 9 .skip (.exit 0)) (aQ (.block 1 (ak [U 10 8,U 4 10] (aQ (ak [U 11 0,U 12 4,aD 13 (.eJ dy dR),aG 14 .eql dS (.c (.int .u8 34)),U 15 14,c5 16 15 false 0,c5 17 15 false 4,bV 18 15 false (.eJ fb eA),cf 19 15 false .eql gU (.c (.int .u8 92)),bD 20 dq c6 eS] (a8 20 (b1 [bi 21 178 [fm,.c (.int .u8 92)]]) .skip)) (b1 [U 22 0,U 23 4,aD 24 (.eJ fl fv),bi 25 178 [fm,fS]])))) (b1 [aG 26 .add dI (aE 1),U 8 26]))))))) (ak [bi 27 178 [fm,.c (.int .u8 34)]] (bd [bi 28 129 [fm],U 2 28])))))
def Qq:List bk:=[.t 2]
theorem UZ:bY Tryz.prog Tryz.f180 1 JL Qq=true:=by kernel_rfl
def xz:bu:=
 ak [aD 2 (.box 35 gp),aD 3 (.box 35 ls),ci 4] (aQ (ak [aI 12 0 2,aM 13 12,aI 14 0 3,aM 15 14,aG 16 .neq dS dq,U 17 16,bl 18 17 false 1 2,bm 19 17 false 18,bl 20 17 false 1 3,bm 21 17 false 20,cf 22 17 false .neq eS fc,bD 23 eA c6 fl,U 24 23,bl 25 24 false 2 2,bm 26 24 false 25,bl 27 24 false 2 3,bm 28 24 false 27,cf 29 24 false .neq fA fB,bD 30 fS c6 hE,U 31 30,bl 32 31 false 3 2,bm 33 31 false 32,bV 34 31 false (.len ib),bl 35 31 false 3 3,bm 36 31 false 35,bV 37 31 false (.len ic),cf 38 31 false .neq lu j4,bD 39 gH c6 ku,U 40 39,bl 41 40 false 4 2,bm 42 40 false 41,bV 43 40 false (.len lN),bl 44 40 false 4 3,bm 45 40 false 44,bV 46 40 false (.len mJ),cf 47 40 false .neq jh mK,bD 48 kv c6 mL,U 49 48,bl 50 49 false 5 2,bm 51 49 false 50,bV 52 49 false (.len lz),bl 53 49 false 5 3,bm 54 49 false 53,bV 55 49 false (.len kX),cf 56 49 false .neq ns lO,bD 57 oD c6 kx] (a8 57 (bd [ci 4]) .skip)) (aQ (ak [bx 5 (aE 0)] (.block 0 (.loop (aQ (ak [U 58 5,aI 59 3 2,aM 60 59,cL 61 60,aG 62 .lss kY tv] (a8 62 .skip (.exit 0))) (aQ (.block 1 (aQ (.region [aI 65 3 2,aM 66 65,U 67 5,cU 68 7 p7 q6,cr 69 7 68,aI 70 3 3,aM 71 70,U 72 5,cU 73 7 q8 tw,cr 74 7 73,aD 75 (.oS true 95 [.s,.i .i64,.i .i64,.i .i64,.i .i64,.i .i64,.s] q7 tx)] true) (a8 75 (bd [ci 4]) .skip))) (b1 [U 63 5,aG 64 .add q5 (aE 1),U 5 64])))))) (aQ (ak [bx 6 (aE 0)] (.block 2 (.loop (aQ (ak [U 76 6,aI 77 4 2,aM 78 77,cL 79 78,aG 80 .lss zR wa] (a8 80 .skip (.exit 2))) (aQ (.block 3 (aQ (.region [aI 83 4 2,aM 84 83,U 85 6,cU 86 4 xY wc,cr 87 4 86,aI 88 4 3,aD 89 (.hr 3 false 1 we),U 90 6,cU 91 4 xZ zS,aD 92 (.nd true 4 wg),aD 7 (.alloc 99 [.str [],.str [],.aV,.aV]),aD 8 (.alloc 99 [.str [],.str [],.aV,.aV]),lE (.fh 7 [3] 4 dF CD),bZ 4 8 Gz] true) (ak [aI 93 0 7,aM 94 93,aI 95 0 8,aM 96 95,aG 97 .neq zT x2,U 98 97,bl 99 98 false 1 7,bm 100 98 false 99,bl 101 98 false 1 8,bm 102 98 false 101,cf 103 98 false .neq zK xV,bD 104 x3 c6 zL,U 105 104,bl 106 105 false 2 7,bm 107 105 false 106,bl 108 105 false 2 8,bm 109 105 false 108,dN 110 105 false 40 [Se,zN],bV 111 105 false (.not Cy),bD 112 Cx c6 Cz,U 113 112,bl 114 113 false 3 7,bm 115 113 false 114,bl 116 113 false 3 8,bm 117 113 false 116,dN 118 113 false 41 [zP,CB],bV 119 113 false (.not Sf),bD 120 zO c6 Gr] (a8 120 (bd [ci 4]) .skip)))) (b1 [U 81 6,aG 82 .add xX (aE 1),U 6 82])))))) (aQ (ak [bx 9 (aE 0)] (.block 4 (.loop (aQ (ak [U 121 9,aI 122 5 2,aM 123 122,cL 124 123,aG 125 .lss Gs Gt] (a8 125 .skip (.exit 4))) (aQ (.block 5 (aQ (.region [aI 128 5 2,aM 129 128,U 130 9,cU 131 4 Gu Sh,cr 132 4 131,aI 133 5 3,aD 134 (.hr 3 false 1 Gv),U 135 9,cU 136 4 aK5 Gw,aD 137 (.nd true 4 Gx),aD 10 (.alloc 66 [.str [],.str [],.aV,.aV]),aD 11 (.alloc 66 [.str [],.str [],.aV,.aV]),lE (.fh 10 [3] 4 fi Si),bZ 4 11 Sj] true) (ak [aI 138 0 10,aM 139 138,aI 140 0 11,aM 141 140,aG 142 .neq Gy Sl,U 143 142,bl 144 143 false 1 10,bm 145 143 false 144,bl 146 143 false 1 11,bm 147 143 false 146,cf 148 143 false .neq Sn So,bD 149 Sm c6 Sp,U 150 149,bl 151 150 false 2 10,bm 152 150 false 151,bl 153 150 false 2 11,bm 154 150 false 153,dN 155 150 false 42 [Sq,Sr],bV 156 150 false (.not aL0),bD 157 aK9 c6 Ss,U 158 157,bl 159 158 false 3 10,bm 160 158 false 159,bl 161 158 false 3 11,bm 162 158 false 161,dN 163 158 false 42 [Su,Sv],bV 164 158 false (.not aL2),bD 165 St c6 Sw] (a8 165 (bd [ci 4]) .skip)))) (b1 [U 126 9,aG 127 .add aK3 (aE 1),U 9 127])))))) (bd [l3 4])))))
def Qg:List bk:=[.t 4]
theorem UP:bY Tryz.prog Tryz.f14 2 xz Qg=true:=by kernel_rfl
def JY:bu:=
 ak [aD 1 (.box 35 gp),ci 2] (ak [bx 3 (aE 0)] (aQ (ak [bx 4 (aE 0)] (.block 0 (.loop (aQ (ak [U 6 4,aI 7 4 1,aM 8 7,cL 9 8,aG 10 .lss dt eT] (a8 10 .skip (.exit 0))) (aQ (.block 1 (aQ (ak [aI 13 4 1,aM 14 13,U 15 4,cU 16 4 fu dq,aI 17 2 16,aM 18 17,cL 19 18,aG 20 .gtr eS (aE 60)] (a8 20 (bd [ci 2]) .skip)) (b1 [U 21 3,aI 22 4 1,aM 23 22,U 24 4,cU 25 4 fv fS,aI 26 3 25,aM 27 26,bi 28 53 [gG],aG 29 .add fc fB,U 3 29]))) (b1 [U 11 4,aG 12 .add dy (aE 1),U 4 12])))))) (aQ (ak [bx 5 (aE 0)] (.block 2 (.loop (aQ (ak [U 30 5,aI 31 5 1,aM 32 31,cL 33 32,aG 34 .lss jg ib] (a8 34 .skip (.exit 2))) (aQ (.block 3 (.region [U 37 3,aI 38 5 1,aM 39 38,U 40 5,cU 41 4 lx kv,aI 42 2 41,aM 43 42,fI 44 54 [jh],aI 45 5 1,aM 46 45,U 47 5,cU 48 4 mK mL,aI 49 3 48,aM 50 49,fI 51 54 [kw],aG 52 .add mb lz,aG 53 .add j4 ns,U 3 53] true)) (b1 [U 35 5,aG 36 .add jA (aE 1),U 5 36])))))) (bd [U 54 3,aG 55 .leq kX (aE 500),U 56 55,bl 57 56 true 3 1,bm 58 56 true 57,bV 59 56 true (.len kY),cf 60 56 true .leq tu (aE 60),bD 61 kx lP cG,U 62 61,bl 63 62 true 4 1,bm 64 62 true 63,bV 65 62 true (.len oE),cf 66 62 true .leq oF (aE 60),bD 67 sh p7 cG,U 68 67,bl 69 68 true 5 1,bm 70 68 true 69,bV 71 68 true (.len p8),cf 72 68 true .leq q8 (aE 60),bD 73 si tw cG,U 2 73]))))
def Qt:List bk:=[.t 2]
theorem U2:bY Tryz.prog Tryz.f17 1 JY Qt=true:=by kernel_rfl
def J9:bu:=
 ak [ci 4] (aQ (ak [U 6 0,cL 7 6,U 8 1,cL 9 8,aG 10 .neq dF eT] (a8 10 (bd [ci 4]) .skip)) (aQ (ak [bx 5 (aE 0)] (.block 0 (.loop (aQ (ak [U 11 5,U 12 0,cL 13 12,aG 14 .lss dy dS] (a8 14 .skip (.exit 0))) (aQ (.block 1 (aQ (.region [U 17 0,U 18 5,cU 19 1 eA gU,aM 20 19,U 21 1,U 22 5,cU 23 1 fc fl,aM 24 23,aG 25 .neq gy fS] true) (a8 25 (bd [ci 4]) .skip))) (b1 [U 15 5,aG 16 .add dq (aE 1),U 5 16])))))) (bd [l3 4])))
def QI:List bk:=[.t 4]
theorem Vi:bY Tryz.prog Tryz.f40 2 J9 QI=true:=by kernel_rfl
def Ka:bu:=
 ak [ci 4] (aQ (ak [U 8 0,cL 9 8,U 10 1,cL 11 10,aG 12 .neq eT dy] (a8 12 (bd [ci 4]) .skip)) (aQ (ak [bx 5 (aE 0)] (.block 0 (.loop (aQ (ak [U 13 5,U 14 0,cL 15 14,aG 16 .lss dS dq] (a8 16 .skip (.exit 0))) (aQ (.block 1 (aQ (.region [U 19 0,U 20 5,cU 21 11 eS gy,aD 22 (.nd true 11 fc),U 23 1,U 24 5,cU 25 11 fv fS,aD 26 (.nd true 11 ha),aD 6 (.alloc 165 [.int .i64 0,.str [],.int .i64 0,.str [],.str [],.str [],.int .i64 0,.aV,.int .i64 0,.aV,.aV]),aD 7 (.alloc 165 [.int .i64 0,.str [],.int .i64 0,.str [],.str [],.str [],.int .i64 0,.aV,.int .i64 0,.aV,.aV]),bZ 11 6 fl,bZ 11 7 fA] true) (ak [aI 27 0 6,aM 28 27,aI 29 0 7,aM 30 29,aG 31 .neq fB jg,U 32 31,bl 33 32 false 1 6,bm 34 32 false 33,bl 35 32 false 1 7,bm 36 32 false 35,cf 37 32 false .neq lu ic,bD 38 jz c6 j4,U 39 38,bl 40 39 false 8 6,bm 41 39 false 40,bl 42 39 false 8 7,bm 43 39 false 42,cf 44 39 false .neq mI jh,bD 45 lx c6 mb,U 46 45,bl 47 46 false 2 6,bV 48 46 false (.load true 6 mL),bV 49 46 false (.dA 51 6 1 [.int .i64 0,.str [],.str [],.str [],.int .i64 0,.aV] [(0,ly)]),bl 50 46 false 2 7,bV 51 46 false (.load true 6 kw),bV 52 46 false (.dA 51 6 1 [.int .i64 0,.str [],.str [],.str [],.int .i64 0,.aV] [(0,lz)]),dN 53 46 false 42 [oD,ns],bV 54 46 false (.not nX),bD 55 mK c6 kX,U 56 55,bl 57 56 false 9 6,bm 58 56 false 57,bl 59 56 false 9 7,bm 60 56 false 59,dN 61 56 false 41 [kY,lP],bV 62 56 false (.not tv),bD 63 kx c6 sh,U 64 63,bl 65 64 false 10 6,bm 66 64 false 65,bl 67 64 false 10 7,bm 68 64 false 67,dN 69 64 false 41 [p7,si],bV 70 64 false (.not q7),bD 71 oE c6 p8] (a8 71 (bd [ci 4]) .skip)))) (b1 [U 17 5,aG 18 .add eA (aE 1),U 5 18])))))) (bd [l3 4])))
def QJ:List bk:=[.t 4]
theorem Vj:bY Tryz.prog Tryz.f41 2 Ka QJ=true:=by kernel_rfl
def Kb:bu:=
 ak [ci 4] (aQ (ak [U 8 0,cL 9 8,U 10 1,cL 11 10,aG 12 .neq eT dy] (a8 12 (bd [ci 4]) .skip)) (aQ (ak [bx 5 (aE 0)] (.block 0 (.loop (aQ (ak [U 13 5,U 14 0,cL 15 14,aG 16 .lss dS dq] (a8 16 .skip (.exit 0))) (aQ (.block 1 (aQ (.region [U 19 0,U 20 5,cU 21 6 eS gy,aD 22 (.nd true 6 fc),U 23 1,U 24 5,cU 25 6 fv fS,aD 26 (.nd true 6 ha),aD 6 (.alloc 51 [.int .i64 0,.str [],.str [],.str [],.int .i64 0,.aV]),aD 7 (.alloc 51 [.int .i64 0,.str [],.str [],.str [],.int .i64 0,.aV]),bZ 6 6 fl,bZ 6 7 fA] true) (ak [aI 27 0 6,aM 28 27,aI 29 0 7,aM 30 29,aG 31 .neq fB jg,U 32 31,bl 33 32 false 1 6,bm 34 32 false 33,bl 35 32 false 1 7,bm 36 32 false 35,cf 37 32 false .neq lu ic,bD 38 jz c6 j4,U 39 38,bl 40 39 false 2 6,bm 41 39 false 40,bl 42 39 false 2 7,bm 43 39 false 42,cf 44 39 false .neq mI jh,bD 45 lx c6 mb,U 46 45,bl 47 46 false 3 6,bm 48 46 false 47,bl 49 46 false 3 7,bm 50 46 false 49,cf 51 46 false .neq ly kw,bD 52 mK c6 lz,U 53 52,bl 54 53 false 4 6,bm 55 53 false 54,bl 56 53 false 4 7,bm 57 53 false 56,cf 58 53 false .neq lO nt,bD 59 nX c6 kY,U 60 59,bl 61 60 false 5 6,bm 62 60 false 61,bl 63 60 false 5 7,bm 64 60 false 63,dN 65 60 false 42 [sh,oE],bV 66 60 false (.not oF),bD 67 lP c6 p7] (a8 67 (bd [ci 4]) .skip)))) (b1 [U 17 5,aG 18 .add eA (aE 1),U 5 18])))))) (bd [l3 4])))
def QK:List bk:=[.t 4]
theorem Vs:bY Tryz.prog Tryz.f42 2 Kb QK=true:=by kernel_rfl
def Ke:bu:=
 ak [bx 2 (aE 0)] (ak [U 5 0,cL 6 5,U 3 6] (aQ (ak [bx 4 (aE 0)] (.block 0 (.loop (aQ (ak [U 7 4,U 8 0,cL 9 8,aG 10 .lss dF eT] (a8 10 .skip (.exit 0))) (aQ (.block 1 (.region [U 13 3,U 14 0,U 15 4,cU 16 11 fu dq,aI 17 2 16,cr 18 6 17,aD 19 (.dA 51 6 1 [.int .i64 0,.str [],.str [],.str [],.int .i64 0,.aV] [(0,gU)]),fI 20 54 [eS],U 21 0,U 22 4,cU 23 11 fc fl,aI 24 9 23,aM 25 24,fI 26 53 [ha],aG 27 .add gy fA,U 28 0,U 29 4,cU 30 11 fB hE,aI 31 10 30,aM 32 31,fI 33 53 [jz],aG 34 .add gG ib,aG 35 .add dS lu,U 3 35] true)) (b1 [U 11 4,aG 12 .add dy (aE 1),U 4 12])))))) (bd [U 36 3,U 2 36])))
def QV:List bk:=[.t 2]
theorem Vw:bY Tryz.prog Tryz.f53 1 Ke QV=true:=by kernel_rfl
def Kf:bu:=
 ak [bx 2 (aE 0)] (ak [U 5 0,cL 6 5,U 3 6] (aQ (ak [bx 4 (aE 0)] (.block 0 (.loop (aQ (ak [U 7 4,U 8 0,cL 9 8,aG 10 .lss dF eT] (a8 10 .skip (.exit 0))) (aQ (.block 1 (b1 [U 13 3,U 14 0,U 15 4,cU 16 6 fu dq,aI 17 5 16,aM 18 17,bi 19 54 [gU],aG 20 .add dS eS,U 3 20])) (b1 [U 11 4,aG 12 .add dy (aE 1),U 4 12])))))) (bd [U 21 3,U 2 21])))
def QW:List bk:=[.t 2]
theorem Vx:bY Tryz.prog Tryz.f54 1 Kf QW=true:=by kernel_rfl
def J0:bu:=
 ak [bx 2 (aE 0)] (ak [aD 6 (.dA 9 1 1 [.str []] [(0,be [124,124])]),aD 7 (.dA 9 1 1 [.str []] [(0,be [38,38])]),aD 8 (.dA 9 1 2 [.str []] [(0,be [61,61]),(1,be [33,61])]),aD 9 (.dA 9 1 4 [.str []] [(0,be [60]),(1,be [60,61]),(2,be [62]),(3,be [62,61])]),aD 10 (.dA 9 1 2 [.str []] [(0,be [43]),(1,be [45])]),aD 11 (.dA 9 1 3 [.str []] [(0,be [42]),(1,be [47]),(2,be [37])]),aD 12 (.dA 48 1 6 [.aV] [(0,dt),(1,dF),(2,dI),(3,eT),(4,fi),(5,dy)]),U 3 12] (aQ (ak [bx 4 (aE 0)] (.block 0 (.loop (aQ (ak [U 13 4,U 14 3,cL 15 14,aG 16 .lss dS dq] (a8 16 .skip (.exit 0))) (aQ (.block 1 (ak [bx 5 (aE 0)] (.block 2 (.loop (aQ (ak [U 19 5,U 20 3,U 21 4,cU 22 1 gy fc,aM 23 22,cL 24 23,aG 25 .lss eS fS] (a8 25 .skip (.exit 2))) (aQ (.block 3 (ak [U 28 3,U 29 4,cU 30 1 fB hE,aM 31 30,U 32 5,cU 33 1 gH jz,aM 34 33,U 35 0,aG 36 .eql lu jA] (a8 36 (bd [U 37 4,aG 38 .add j4 (aE 1),U 2 38]) .skip))) (b1 [U 26 5,aG 27 .add fA (aE 1),U 5 27]))))))) (b1 [U 17 4,aG 18 .add eA (aE 1),U 4 18])))))) (bd [bx 2 (aE 0)])))
def QD:List bk:=[.t 2]
theorem Vf:bY Tryz.prog Tryz.f24 1 J0 QD=true:=by kernel_rfl
def Am:bu:=
 ak [aD 1 (.box 27 gp),aD 2 (.alloc 35 [.str [],.str [],.str [],.aV,.aV,.aV])] (ak [aI 9 0 1,aM 10 9,aI 11 1 1,aM 12 11,aI 13 2 1,aM 14 13,aD 15 (.build [.str [],.str [],.str [],.aV,.aV,.aV] [(0,1,fi),(1,1,dR),(2,1,fu)]),aD 3 (.alloc 35 [.str [],.str [],.str [],.aV,.aV,.aV]),bZ 6 3 dq] (aQ (ak [bx 4 (aE 0)] (.block 0 (.loop (aQ (ak [U 16 4,aI 17 3 1,aM 18 17,cL 19 18,aG 20 .lss fb eS] (a8 20 .skip (.exit 0))) (aQ (.block 1 (.region [aI 23 3 3,aM 24 23,aI 25 3 1,aM 26 25,U 27 4,cU 28 7 fA gG,cr 29 7 28,aD 30 (.dA 95 7 1 [.str [],.int .i64 0,.int .i64 0,.int .i64 0,.int .i64 0,.int .i64 0,.str []] [(0,hE)]),aD 31 (.append 95 7 72 fS jg),aI 32 3 3,bZ 1 32 gH] true)) (b1 [U 21 4,aG 22 .add fc (aE 1),U 4 22])))))) (aQ (ak [bx 5 (aE 0)] (.block 2 (.loop (aQ (ak [U 33 5,aI 34 4 1,aM 35 34,cL 36 35,aG 37 .lss ib ic] (a8 37 .skip (.exit 2))) (aQ (.block 3 (ak [aI 40 4 1,aM 41 40,U 42 5,cU 43 4 mI lN,cr 44 4 43,aD 6 (.alloc 109 [.str [],.str [],.aV,.aV]),bZ 4 6 mb] (.region [aI 45 4 3,aM 46 45,aI 47 0 6,aM 48 47,aI 49 1 6,aM 50 49,aI 51 2 6,aM 52 51,aI 53 3 6,aM 54 53,fI 55 43 [kX],aD 56 (.build [.str [],.str [],.aV,.aV] [(0,1,ly),(1,1,kw),(2,1,ns),(3,1,lO)]),aD 57 (.dA 99 4 1 [.str [],.str [],.aV,.aV] [(0,kx)]),aD 58 (.append 99 4 80 mK nt),aI 59 4 3,bZ 1 59 kY] true))) (b1 [U 38 5,aG 39 .add ku (aE 1),U 5 39])))))) (aQ (ak [bx 7 (aE 0)] (.block 4 (.loop (aQ (ak [U 60 7,aI 61 5 1,aM 62 61,cL 63 62,aG 64 .lss lP q5] (a8 64 .skip (.exit 4))) (aQ (.block 5 (ak [aI 67 5 1,aM 68 67,U 69 7,cU 70 4 si q7,cr 71 4 70,aD 8 (.alloc 74 [.str [],.str [],.aV,.aV]),bZ 4 8 q8] (.region [aI 72 5 3,aM 73 72,aI 74 0 8,aM 75 74,aI 76 1 8,aM 77 76,aI 78 2 8,aM 79 78,fI 80 44 [wa],aI 81 3 8,aM 82 81,fI 83 44 [wb],aD 84 (.build [.str [],.str [],.aV,.aV] [(0,1,v8),(1,1,sk),(2,1,xW),(3,1,sl)]),aD 85 (.dA 66 4 1 [.str [],.str [],.aV,.aV] [(0,xY)]),aD 86 (.append 66 4 80 sj wc),aI 87 5 3,bZ 1 87 uT] true))) (b1 [U 65 7,aG 66 .add oF (aE 1),U 7 66])))))) (bd [cr 88 6 3,bZ 6 2 we])))))
def Qr:List bk:=[.cell true 6 2]
theorem U0:bY Tryz.prog Tryz.f15 1 Am Qr=true:=by kernel_rfl
def Kc:bu:=
 ak [bx 2 (.c .aV)] (ak [bx 3 (.c .aV)] (aQ (ak [bx 4 (aE 0)] (.block 0 (.loop (aQ (ak [U 6 4,U 7 0,cL 8 7,aG 9 .lss dt dI] (a8 9 .skip (.exit 0))) (aQ (.block 1 (ak [U 12 0,U 13 4,cU 14 11 dR dS,cr 15 11 14,aD 5 (.alloc 133 [.int .i64 0,.str [],.int .i64 0,.str [],.str [],.str [],.int .i64 0,.aV,.int .i64 0,.aV,.aV]),bZ 11 5 dq] (.region [U 16 3,aI 17 0 5,aM 18 17,aI 19 1 5,aM 20 19,aI 21 2 5,cr 22 6 21,aD 23 (.dA 131 6 1 [.int .i64 0,.str [],.str [],.str [],.int .i64 0,.aV] [(0,fl)]),fI 24 44 [fv],cU 25 6 fS (aE 0),cr 26 6 25,aI 27 8 5,aM 28 27,aI 29 9 5,aM 30 29,fI 31 43 [jg],aI 32 10 5,aM 33 32,fI 34 43 [ib],aD 35 (.build [.int .i64 0,.str [],.int .i64 0,.str [],.str [],.str [],.int .i64 0,.aV,.int .i64 0,.aV,.aV] [(0,1,gU),(1,1,gy),(2,6,fA),(8,1,fB),(9,1,gH),(10,1,lu)]),aD 36 (.dA 165 11 1 [.int .i64 0,.str [],.int .i64 0,.str [],.str [],.str [],.int .i64 0,.aV,.int .i64 0,.aV,.aV] [(0,jA)]),aD 37 (.append 165 11 168 fb ic),U 3 37] true))) (b1 [U 10 4,aG 11 .add fi (aE 1),U 4 11])))))) (bd [U 38 3,U 2 38])))
def QT:List bk:=[.t 2]
theorem Vu:bY Tryz.prog Tryz.f43 1 Kc QT=true:=by kernel_rfl
def Kd:bu:=
 ak [bx 2 (.c .aV)] (ak [bx 3 (.c .aV)] (aQ (ak [bx 4 (aE 0)] (.block 0 (.loop (aQ (ak [U 6 4,U 7 0,cL 8 7,aG 9 .lss dt dI] (a8 9 .skip (.exit 0))) (aQ (.block 1 (ak [U 12 0,U 13 4,cU 14 6 dR dS,cr 15 6 14,aD 5 (.alloc 131 [.int .i64 0,.str [],.str [],.str [],.int .i64 0,.aV]),bZ 6 5 dq] (.region [U 16 3,aI 17 0 5,aM 18 17,aI 19 1 5,aM 20 19,aI 21 2 5,aM 22 21,aI 23 3 5,aM 24 23,aI 25 4 5,aM 26 25,aI 27 5 5,aM 28 27,fI 29 44 [fB],aD 30 (.build [.int .i64 0,.str [],.str [],.str [],.int .i64 0,.aV] [(0,1,gU),(1,1,gy),(2,1,fl),(3,1,fS),(4,1,fA),(5,1,hE)]),aD 31 (.dA 51 6 1 [.int .i64 0,.str [],.str [],.str [],.int .i64 0,.aV] [(0,jg)]),aD 32 (.append 51 6 88 fb gH),U 3 32] true))) (b1 [U 10 4,aG 11 .add fi (aE 1),U 4 11])))))) (bd [U 33 3,U 2 33])))
def QU:List bk:=[.t 2]
theorem Vv:bY Tryz.prog Tryz.f44 1 Kd QU=true:=by kernel_rfl
def vd:bu:=
 ak [aD 1 (.box 35 gp),bx 2 (be []),bx 3 (aE 0)] (aQ (ak [cr 4 6 1,bi 5 21 [gq],fE 6 5] (a8 6 (bd [bx 2 (be []),bx 3 (aE 1)]) .skip)) (bd [cr 7 6 1,bi 8 57 [dF],U 2 8,bx 3 (aE 0)]))
def FL:List bk:=[.t 2,.t 3]
theorem HK:bY Tryz.prog Tryz.f20 1 vd FL=true:=by kernel_rfl
def vf:bu:=
 ak [aD 1 (.box 35 gp),ci 2] (aQ (ak [aI 9 0 1,aM 10 9,bi 11 58 [fi],fE 12 11,U 13 12,bl 14 13 false 1 1,bm 15 13 false 14,dN 16 13 false 58 [dq],bV 17 13 false (.not fb),bD 18 dS c6 eA,U 19 18,bl 20 19 false 2 1,bm 21 19 false 20,dN 22 19 false 58 [fc],bV 23 19 false (.not fl),bD 24 eS c6 fv,U 25 24,bl 26 25 false 3 1,bm 27 25 false 26,bV 28 25 false (.len gG),cf 29 25 false .gtr fB (aE 12),bD 30 ha c6 hE,U 31 30,bl 32 31 false 4 1,bm 33 31 false 32,bV 34 31 false (.len ib),cf 35 31 false .gtr lu (aE 40),bD 36 gH c6 jA,U 37 36,bl 38 37 false 5 1,bm 39 37 false 38,bV 40 37 false (.len lx),cf 41 37 false .gtr kv (aE 40),bD 42 j4 c6 mI] (a8 42 (bd [ci 2]) .skip)) (aQ (ak [bx 3 (aE 0)] (.block 0 (.loop (aQ (ak [U 43 3,aI 44 3 1,aM 45 44,cL 46 45,aG 47 .lss jh mK] (a8 47 .skip (.exit 0))) (aQ (.block 1 (ak [aI 50 3 1,aM 51 50,U 52 3,cU 53 7 lz ns,cr 54 7 53,bi 55 59 [kX],fE 56 55] (a8 56 (bd [ci 2]) .skip))) (b1 [U 48 3,aG 49 .add ly (aE 1),U 3 49])))))) (aQ (ak [bx 4 (aE 0)] (.block 2 (.loop (aQ (ak [U 57 4,aI 58 4 1,aM 59 58,cL 60 59,aG 61 .lss nt lP] (a8 61 .skip (.exit 2))) (aQ (.block 3 (ak [aI 64 4 1,aM 65 64,U 66 4,cU 67 4 oF p7,cr 68 4 67,aD 5 (.alloc 99 [.str [],.str [],.aV,.aV]),bZ 4 5 si] (aQ (ak [aI 69 0 5,aM 70 69,bi 71 60 [p8],fE 72 71,U 73 72,bl 74 73 false 1 5,bm 75 73 false 74,dN 76 73 false 58 [v8],bV 77 73 false (.not zR),bD 78 sj c6 sk,U 79 78,bl 80 79 false 2 5,bm 81 79 false 80,bV 82 79 false (.len xX),cf 83 79 false .gtr wb (aE 4),bD 84 wa c6 sl,U 85 84,bl 86 85 false 3 5,bm 87 85 false 86,dN 88 85 false 61 [CD,aE 10],bV 89 85 false (.not we),bD 90 wc c6 xZ] (a8 90 (bd [ci 2]) .skip)) (ak [bx 6 (aE 0)] (.block 4 (.loop (aQ (ak [U 91 6,aI 92 2 5,aM 93 92,cL 94 93,aG 95 .lss wg zT] (a8 95 .skip (.exit 4))) (aQ (.block 5 (ak [aI 98 2 5,aM 99 98,U 100 6,cU 101 1 GA zK,aM 102 101,bi 103 58 [xV],fE 104 103] (a8 104 (bd [ci 2]) .skip))) (b1 [U 96 6,aG 97 .add x2 (aE 1),U 6 97]))))))))) (b1 [U 62 4,aG 63 .add sh (aE 1),U 4 63])))))) (aQ (ak [bx 7 (aE 0)] (.block 6 (.loop (aQ (ak [U 105 7,aI 106 5 1,aM 107 106,cL 108 107,aG 109 .lss Cx Gn] (a8 109 .skip (.exit 6))) (aQ (.block 7 (ak [aI 112 5 1,aM 113 112,U 114 7,cU 115 4 zO Gp,cr 116 4 115,aD 8 (.alloc 66 [.str [],.str [],.aV,.aV]),bZ 4 8 Gq] (ak [aI 117 0 8,aM 118 117,bi 119 60 [Sf],fE 120 119,U 121 120,bl 122 121 false 1 8,bm 123 121 false 122,dN 124 121 false 58 [aK1],bV 125 121 false (.not Gt),bD 126 Gs c6 aK2,U 127 126,bl 128 127 false 2 8,bm 129 127 false 128,dN 130 127 false 62 [Gu,aE 4],bV 131 127 false (.not Sh),bD 132 Sg c6 aK4,U 133 132,bl 134 133 false 3 8,bm 135 133 false 134,dN 136 133 false 62 [Gw,aE 1],bV 137 133 false (.not Gx),bD 138 Gv c6 Sj] (a8 138 (bd [ci 2]) .skip)))) (b1 [U 110 7,aG 111 .add Cy (aE 1),U 7 111])))))) (bd [cr 139 6 1,bi 140 57 [Gy],aD 141 (.fQ Sk),aG 142 .leq Sl (aE 8000),U 2 142])))))
def QC:List bk:=[.t 2]
theorem Vb:bY Tryz.prog Tryz.f21 1 vf QC=true:=by kernel_rfl
def J2:bu:=
 ak [aD 1 (.box 51 gp),bx 2 (be [])] (aQ (ak [aI 4 0 1,aM 5 4] (.block 0 (ak [aG 7 .eql eG (aE 1),U 6 7] (a8 6 (bd [aI 8 4 1,aM 9 8,bi 10 75 [eT],U 2 10]) (ak [aG 12 .eql eG (aE 2),U 11 12] (a8 11 (bd [aI 13 3 1,aM 14 13,bi 15 76 [fu],U 2 15]) (ak [aG 17 .eql eG (aE 4),U 16 17] (a8 16 (bd [aI 18 5 1,aM 19 18,cU 20 6 eS (aE 0),cr 21 6 20,bi 22 28 [fc],aG 23 .add (be [108,101,110,40]) fl,aG 24 .add fv (be [41]),U 2 24]) (ak [aG 26 .eql eG (aE 5),U 25 26] (a8 25 (aQ (.region [aI 27 1 1,aM 28 27,aI 29 5 1,aM 30 29,cU 31 6 jg (aE 0),cr 32 6 31,fI 33 77 [jz,aE 7],aG 34 .add fB ib,U 2 34] true) .ret) (ak [aG 36 .eql eG (aE 6),U 35 36] (a8 35 (ak [aI 37 1 1,aM 38 37,bi 39 24 [ku],U 3 39] (aQ (.region [aI 40 5 1,aM 41 40,cU 42 6 mI (aE 0),cr 43 6 42,U 44 3,fI 45 77 [jh,mb],aG 46 .add mJ (be [32]),aI 47 1 1,aM 48 47,aG 49 .add mK ly,aG 50 .add oD (be [32]),aI 51 5 1,aM 52 51,cU 53 6 ns (aE 1),cr 54 6 53,U 55 3,aG 56 .add lO (aE 1),fI 57 77 [kX,kx],aG 58 .add kw nt,U 2 58] true) .ret)) .skip)))))))))))) (bd [aI 59 2 1,aM 60 59,U 2 60]))
def QG:List bk:=[.t 2]
theorem Vg:bY Tryz.prog Tryz.f28 1 J2 QG=true:=by kernel_rfl
def ww:bu:=
 ak [aD 1 (.box 35 gp),bx 2 (be [])] (ak [aI 13 0 1,aM 14 13,aG 15 .add (be [115,101,114,118,105,99,101,32]) fu,aG 16 .add dq (be [32,112,108,97,121,115,32]),aI 17 1 1,aM 18 17,aG 19 .add fb gU,aG 20 .add eS (be [32,111,102,32]),aI 21 2 1,aM 22 21,aG 23 .add gy fl,aG 24 .add fv (be [32,123,10]),U 3 24] (aQ (ak [bx 4 (aE 0)] (.block 0 (.loop (aQ (ak [U 25 4,aI 26 3 1,aM 27 26,cL 28 27,aG 29 .lss ha fB] (a8 29 .skip (.exit 0))) (aQ (.block 1 (ak [aI 32 3 1,aM 33 32,U 34 4,cU 35 7 ib lu,cr 36 7 35,aD 5 (.alloc 95 [.str [],.int .i64 0,.int .i64 0,.int .i64 0,.int .i64 0,.int .i64 0,.str []]),bZ 7 5 ic] (ak [aI 37 4 5,aI 38 1 37,aM 39 38,bi 40 75 [lx],bx 6 (be [105,110,116]),U 7 40] (aQ (ak [aI 41 1 5,aI 42 0 41,aM 43 42,aG 44 .eql jh (aE 2)] (a8 44 (b1 [bx 6 (be [116,101,120,116])]) .skip)) (aQ (ak [aI 45 4 5,aI 46 0 45,aM 47 46,aG 48 .eql mL (aE 2)] (a8 48 (b1 [aI 49 4 5,aI 50 2 49,aM 51 50,bi 52 76 [lz],U 7 52]) .skip)) (.region [U 53 3,aI 54 0 5,aM 55 54,aG 56 .add (be [9,118,97,114,32]) lO,aG 57 .add kx (be [58,32]),U 58 6,aG 59 .add nt kY,aG 60 .add tu (be [32]),aI 61 1 5,aI 62 1 61,aM 63 62,fI 64 75 [q5],aG 65 .add lP oE,aG 66 .add oF (be [32,46,46,32]),aI 67 1 5,aI 68 2 67,aM 69 68,fI 70 75 [q7],aG 71 .add p7 p8,aG 72 .add q8 (be [32,61,32]),U 73 7,aG 74 .add tw sj,aG 75 .add tx (be [59,10]),aG 76 .add nX v8,U 3 76] true)))))) (b1 [U 30 4,aG 31 .add jg (aE 1),U 4 31])))))) (aQ (ak [bx 8 (aE 0)] (.block 2 (.loop (aQ (ak [U 77 8,aI 78 4 1,aM 79 78,cL 80 79,aG 81 .lss sk xW] (a8 81 .skip (.exit 2))) (aQ (.block 3 (ak [aI 84 4 1,aM 85 84,U 86 8,cU 87 4 wc uT,cr 88 4 87,aD 9 (.alloc 99 [.str [],.str [],.aV,.aV]),bZ 4 9 we] (ak [U 89 3,aI 90 0 9,aM 91 90,aG 92 .add (be [9,111,110,32]) wg,aG 93 .add Gz (be [40]),aG 94 .add xZ x0,U 3 94] (aQ (ak [bx 10 (aE 0)] (.block 4 (.loop (aQ (ak [U 95 10,aI 96 2 9,aM 97 96,cL 98 97,aG 99 .lss x1 x3] (a8 99 .skip (.exit 4))) (aQ (.block 5 (aQ (ak [U 102 10,aG 103 .gtr xV (aE 0)] (a8 103 (b1 [U 104 3,aG 105 .add Cw (be [44,32]),U 3 105]) .skip)) (b1 [U 106 3,aI 107 2 9,aM 108 107,U 109 10,cU 110 1 Gn zN,aM 111 110,aG 112 .add zM Cz,U 3 112]))) (b1 [U 100 10,aG 101 .add zK (aE 1),U 10 101])))))) (.region [U 113 3,aI 114 1 9,aM 115 114,aG 116 .add (be [41,32,102,114,111,109,32]) zP,aG 117 .add Gq (be [32]),aI 118 3 9,aM 119 118,fI 120 130 [Gr,be [9]],aG 121 .add CB aJ9,aG 122 .add Gs (be [10]),aG 123 .add zO aK0,U 3 123] true))))) (b1 [U 82 8,aG 83 .add wb (aE 1),U 8 83])))))) (aQ (ak [bx 11 (aE 0)] (.block 6 (.loop (aQ (ak [U 124 11,aI 125 5 1,aM 126 125,cL 127 126,aG 128 .lss Gt Sg] (a8 128 .skip (.exit 6))) (aQ (.block 7 (ak [aI 131 5 1,aM 132 131,U 133 11,cU 134 4 Si Gv,cr 135 4 134,aD 12 (.alloc 66 [.str [],.str [],.aV,.aV]),bZ 4 12 Gw] (aQ (.region [U 136 3,aI 137 0 12,aM 138 137,aG 139 .add (be [9,111,102,102,101,114,32]) aK6,aG 140 .add Gy (be [40]),aI 141 2 12,aM 142 141,fI 143 131 [aK7],aG 144 .add Sk Sm,aG 145 .add aK8 (be [41,32,116,111,32]),aI 146 1 12,aM 147 146,aG 148 .add Sn So,aG 149 .add Gx Sp,U 3 149] true) (aQ (ak [aI 150 3 12,aM 151 150,cL 152 151,aG 153 .eql Sq (aE 1)] (a8 153 (b1 [U 154 3,aI 155 3 12,aM 156 155,cU 157 6 Ss (aE 0),cr 158 6 157,bi 159 28 [St],aG 160 .add (be [32,119,104,101,114,101,32]) aL1,aG 161 .add Sr Su,U 3 161]) .skip)) (b1 [U 162 3,aG 163 .add Sv (be [59,10]),U 3 163]))))) (b1 [U 129 11,aG 130 .add Gu (aE 1),U 11 130])))))) (bd [U 164 3,aG 165 .add Sw (be [125,10]),U 2 165])))))
def QX:List bk:=[.t 2]
theorem Vy:bY Tryz.prog Tryz.f57 1 ww QX=true:=by kernel_rfl
def Kp:bu:=
 ak [ci 2] (bd [U 3 0,bi 4 132 [fm],U 5 4,dN 6 5 true 134 [],c5 7 5 true 0,dN 8 5 true 133 [dt,dF],bV 9 5 true (.not dI),bD 10 eG eT cG,U 2 10])
def QY:List bk:=[.t 2]
theorem Vz:bY Tryz.prog Tryz.f58 1 Kp QY=true:=by kernel_rfl
def KC:bu:=
 ak [aD 1 (.box 95 gp),ci 2] (aQ (.region [aI 5 1 1,cr 6 3 5,aI 7 4 1,aD 8 (.hr 1 true 3 dF),aD 3 (.alloc 91 [.int .i64 0,.int .i64 0,.int .i64 0]),aD 4 (.alloc 93 [.int .i64 0,.int .i64 0,.str []]),lE (.fh 3 [1] 3 fm dt),bZ 3 4 dI] true) (aQ (ak [aI 9 1 3,aM 10 9,aG 11 .lss fi (aE (-999999)),U 12 11,bl 13 12 false 2 3,bm 14 12 false 13,cf 15 12 false .lss fu (aE (-999999)),bD 16 dR c6 dq,U 17 16,bl 18 17 false 1 3,bm 19 17 false 18,cf 20 17 false .gtr eS (aE 999999),bD 21 eA c6 gy,U 22 21,bl 23 22 false 2 3,bm 24 22 false 23,cf 25 22 false .gtr fS (aE 999999),bD 26 fl c6 ha,U 27 26,bl 28 27 false 0 3,bm 29 27 false 28,cf 30 27 false .neq hE (aE 1),c5 31 27 false 30,bl 32 31 true 0 3,bm 33 31 true 32,cf 34 31 true .neq ib (aE 2),bV 35 27 false (.pick gH lu cG),bD 36 gG c6 jA,U 37 36,bl 38 37 false 0 3,bm 39 37 false 38,cf 40 37 false .eql lx (aE 2),c5 41 37 false 40,bl 42 41 true 1 3,bm 43 41 true 42,cf 44 41 true .lss jh (aE 0),c5 45 41 true 44,bl 46 45 false 2 3,bm 47 45 false 46,cf 48 45 false .lss mL (aE 0),bV 49 41 true (.pick mJ c6 ly),bV 50 37 false (.pick mI oD cG),bD 51 j4 c6 kw] (a8 51 (bd [ci 2]) .skip)) (aQ (ak [aI 52 0 4,aM 53 52,aG 54 .eql nX (aE 1)] (a8 54 (bd [aI 55 2 4,aM 56 55,aG 57 .eql kx (be []),U 58 57,bl 59 58 true 1 4,bm 60 58 true 59,cf 61 58 true .geq lP (aE (-999999)),bD 62 kY tv cG,U 63 62,bl 64 63 true 1 4,bm 65 63 true 64,cf 66 63 true .leq oF (aE 999999),bD 67 q5 p7 cG,U 68 67,bl 69 68 true 0 1,bm 70 68 true 69,dN 71 68 true 58 [p8],bD 72 si q8 cG,U 2 72]) .skip)) (bd [cr 73 3 4,bi 74 135 [sj],U 75 74,bl 76 75 true 0 1,bm 77 75 true 76,dN 78 75 true 58 [sk],bD 79 v8 CC cG,U 2 79]))))
def QZ:List bk:=[.t 2]
theorem VA:bY Tryz.prog Tryz.f59 1 KC QZ=true:=by kernel_rfl
def KN:bu:=
 ak [ci 2] (ak [bx 3 (aE 0)] (aQ (ak [bx 4 (aE 0)] (.block 0 (.loop (aQ (ak [U 5 4,U 6 0,aD 7 (.fQ dt),aG 8 .leq eG dF] (a8 8 .skip (.exit 0))) (aQ (.block 1 (ak [U 11 4,U 12 0,aD 13 (.fQ dR),aG 14 .eql dy dS,U 15 14,c5 16 15 false 0,c5 17 15 false 4,bV 18 15 false (.eJ fb eA),cf 19 15 false .eql gU (.c (.int .u8 46)),bD 20 dq c6 eS] (a8 20 (aQ (ak [U 21 0,U 22 3,U 23 4,aD 24 (.gE fc (some fl) (some fv)),bi 25 136 [fS],fE 26 25] (a8 26 (bd [ci 2]) .skip)) (b1 [U 27 4,aG 28 .add gG (aE 1),U 3 28])) .skip))) (b1 [U 9 4,aG 10 .add eT (aE 1),U 4 10])))))) (bd [U 29 0,aD 30 (.fQ hE),aG 31 .leq jg (aE 50),U 2 31])))
def Q0:List bk:=[.t 2]
theorem DA:bY Tryz.prog Tryz.f60 1 KN Q0=true:=by kernel_rfl
def KO:bu:=
 ak [ci 4] (aQ (ak [U 8 0,cL 9 8,aG 10 .gtr eT (aE 0),U 11 10,c5 12 11 true 1,cf 13 11 true .eql dR (aE 0),bD 14 dy dS cG] (a8 14 (bd [ci 4]) .skip)) (aQ (ak [bx 5 (aE 0)] (.block 0 (.loop (aQ (ak [U 15 5,U 16 0,cL 17 16,aG 18 .lss dq eA] (a8 18 .skip (.exit 0))) (aQ (.block 1 (ak [U 21 0,U 22 5,cU 23 11 fc fl,cr 24 11 23,aD 6 (.alloc 165 [.int .i64 0,.str [],.int .i64 0,.str [],.str [],.str [],.int .i64 0,.aV,.int .i64 0,.aV,.aV]),bZ 11 6 fS] (ak [aI 25 2 6,cr 26 6 25,bi 27 137 [fA],U 28 27,bl 29 28 true 2 6,bV 30 28 true (.load true 6 hE),dN 31 28 true 138 [jg],c5 32 28 true 1,cf 33 28 true .lss gH jz,bD 34 fB ib cG,U 7 34] (aQ (ak [aI 35 0 6,aM 36 35] (.block 2 (ak [aG 38 .eql ic (aE 1),U 37 38] (a8 37 (b1 [U 39 7,U 40 39,bl 41 40 true 1 6,bm 42 40 true 41,dN 43 40 true 58 [lN],bD 44 kv jh cG,U 45 44,bl 46 45 true 8 6,bm 47 45 true 46,cf 48 45 true .eql mL (aE 0),bD 49 mJ ly cG,U 50 49,bl 51 50 true 9 6,bm 52 50 true 51,bV 53 50 true (.len ns),cf 54 50 true .eql nX (aE 0),bD 55 kw kX cG,U 56 55,bl 57 56 true 10 6,bm 58 56 true 57,bV 59 56 true (.len kY),cf 60 56 true .eql tu (aE 0),bD 61 kx lP cG,U 7 61]) (ak [aG 63 .eql ic (aE 2),U 62 63] (a8 62 (b1 [U 64 7,U 65 64,bl 66 65 true 1 6,bm 67 65 true 66,cf 68 65 true .eql q6 (be []),bD 69 oF si cG,U 70 69,bl 71 70 true 8 6,bm 72 70 true 71,cf 73 70 true .eql tw (aE 0),bD 74 p8 sj cG,U 7 74]) (ak [aG 76 .eql ic (aE 3),U 75 76] (a8 75 (b1 [U 77 7,U 78 77,bl 79 78 true 1 6,bm 80 78 true 79,cf 81 78 true .eql xW (be []),bD 82 CC xX cG,U 83 82,bl 84 83 true 8 6,bm 85 83 true 84,cf 86 83 true .geq wc (aE 1),bD 87 sl uT cG,U 88 87,bl 89 88 true 8 6,bm 90 88 true 89,cf 91 88 true .leq zS (aE 50),bD 92 we wg cG,U 93 92,bl 94 93 true 10 6,bm 95 93 true 94,bV 96 93 true (.len x1),cf 97 93 true .eql x2 (aE 0),bD 98 x0 CE cG,U 7 98]) (bd [ci 4]))))))))) (ak [U 99 7,fE 100 99,U 101 100,bl 102 101 false 9 6,bm 103 101 false 102,c5 104 101 false 1,cf 105 101 false .sub Cw (aE 1),dN 106 101 false 61 [zL,Cx],bV 107 101 false (.not zM),bD 108 Gm c6 Se,U 109 108,bl 110 109 false 10 6,bm 111 109 false 110,c5 112 109 false 1,cf 113 109 false .sub CA (aE 1),dN 114 109 false 61 [Cz,zO],bV 115 109 false (.not Gp),bD 116 zN c6 zP] (a8 116 (bd [ci 4]) .skip)))))) (b1 [U 19 5,aG 20 .add eS (aE 1),U 5 20])))))) (bd [l3 4])))
def Q1:List bk:=[.t 4]
theorem VL:bY Tryz.prog Tryz.f61 2 KO Q1=true:=by kernel_rfl
def KU:bu:=
 ak [ci 4] (aQ (ak [bx 5 (aE 0)] (.block 0 (.loop (aQ (ak [U 6 5,U 7 0,cL 8 7,aG 9 .lss dt dI] (a8 9 .skip (.exit 0))) (aQ (.block 1 (ak [U 12 0,U 13 5,cU 14 6 dR dS,cr 15 6 14,bi 16 137 [dq],fE 17 16,U 18 17,c5 19 18 false 0,c5 20 18 false 5,bV 21 18 false (.fW 6 eS gy),bV 22 18 false (.load true 6 fc),dN 23 18 false 138 [fl],cf 24 18 false .gtr fv (aE 10),bD 25 gU c6 fS] (a8 25 (bd [ci 4]) .skip))) (b1 [U 10 5,aG 11 .add fi (aE 1),U 5 11])))))) (bd [U 26 0,cL 27 26,U 28 1,aG 29 .leq gG fB,U 4 29]))
def Q2:List bk:=[.t 4]
theorem V0:bY Tryz.prog Tryz.f62 2 KU Q2=true:=by kernel_rfl
def DU:bu:=
 ak [bx 2 (be [])] (aQ (.block 0 (ak [U 4 0,aG 5 .lss gq (aE (-9)),U 3 5] (a8 3 (bd [U 6 0,aG 7 .quo dt (aE 10),bi 8 75 [dF],U 9 0,aG 10 .rem eT (aE 10),aG 11 .sub (aE 48) fi,aD 12 (.conv .i32 dy),aD 13 (.k8 true dR),aG 14 .add dI dS,U 2 14]) (ak [U 16 0,aG 17 .lss fb (aE 0),U 15 17] (a8 15 (bd [U 18 0,aG 19 .sub (aE 48) gU,aD 20 (.conv .i32 eS),aD 21 (.k8 true gy),aG 22 .add (be [45]) fc,U 2 22]) (ak [U 24 0,aG 25 .lss fS (aE 10),U 23 25] (a8 23 (bd [U 26 0,aG 27 .add (aE 48) fA,aD 28 (.conv .i32 gG),aD 29 (.k8 true fB),U 2 29]) .skip))))))) (bd [U 30 0,aG 31 .quo jg (aE 10),bi 32 75 [gH],U 33 0,aG 34 .rem ib (aE 10),aG 35 .add (aE 48) lu,aD 36 (.conv .i32 jA),aD 37 (.k8 true ic),aG 38 .add jz j4,U 2 38]))
def FT:List bk:=[.t 2]
theorem H4:bY Tryz.prog Tryz.f75 1 DU FT=true:=by kernel_rfl
def KV:bu:=
 ak [bx 2 (be [])] (ak [bx 3 (be [34])] (aQ (ak [bx 4 (aE 0)] (.block 0 (.loop (aQ (ak [U 5 4,U 6 0,aD 7 (.fQ dt),aG 8 .lss eG dF] (a8 8 .skip (.exit 0))) (aQ (.block 1 (aQ (ak [U 11 0,U 12 4,aD 13 (.eJ dy dR),aG 14 .eql dS (.c (.int .u8 34)),U 15 14,c5 16 15 false 0,c5 17 15 false 4,bV 18 15 false (.eJ fb eA),cf 19 15 false .eql gU (.c (.int .u8 92)),bD 20 dq c6 eS] (a8 20 (b1 [U 21 3,aG 22 .add fc (be [92]),U 3 22]) .skip)) (b1 [U 23 3,U 24 0,U 25 4,U 26 4,aG 27 .add fA (aE 1),aD 28 (.gE fS (some ha) (some gG)),aG 29 .add fv fB,U 3 29]))) (b1 [U 9 4,aG 10 .add eT (aE 1),U 4 10])))))) (bd [U 30 3,aG 31 .add jg (be [34]),U 2 31])))
def Re:List bk:=[.t 2]
theorem V8:bY Tryz.prog Tryz.f76 1 KV Re=true:=by kernel_rfl
def An:bu:=
 ak [aD 2 (.box 51 gp),bx 4 (be [])] (aQ (ak [aI 5 0 2,aM 6 5,aG 7 .eql dt (aE 6),U 8 7,bl 9 8 true 1 2,bm 10 8 true 9,dN 11 8 true 24 [fi],c5 12 8 true 1,cf 13 8 true .lss dy dR,bD 14 dI dS cG] (a8 14 (bd [cr 15 6 2,bi 16 28 [dq],aG 17 .add (be [40]) fb,aG 18 .add eA (be [41]),U 4 18]) .skip)) (bd [cr 19 6 2,bi 20 28 [eS],U 4 20]))
def B8:List bk:=[.t 4]
theorem DE:bY Tryz.prog Tryz.f77 2 An B8=true:=by kernel_rfl
def Jd:bu:=
 ak [bx 4 (be [])] (ak [bx 5 (be [123,10])] (aQ (ak [bx 6 (aE 0)] (.block 0 (.loop (aQ (ak [U 7 6,U 8 0,cL 9 8,aG 10 .lss dF eT] (a8 10 .skip (.exit 0))) (aQ (.block 1 (b1 [U 13 5,U 14 1,aG 15 .add fu (be [9]),U 16 0,U 17 6,cU 18 11 fb eA,cr 19 11 18,U 20 1,aG 21 .add gy (be [9]),bi 22 184 [eS,fc],aG 23 .add dq fl,aG 24 .add fv (be [10]),aG 25 .add dS fS,U 5 25])) (b1 [U 11 6,aG 12 .add dy (aE 1),U 6 12])))))) (bd [U 26 5,U 27 1,aG 28 .add fA gG,aG 29 .add fB (be [125]),U 4 29])))
def PM:List bk:=[.t 4]
theorem Ul:bY Tryz.prog Tryz.f130 2 Jd PM=true:=by kernel_rfl
def Jf:bu:=
 ak [bx 2 (be [])] (ak [bx 3 (be [])] (aQ (ak [bx 4 (aE 0)] (.block 0 (.loop (aQ (ak [U 5 4,U 6 0,cL 7 6,aG 8 .lss eG dF] (a8 8 .skip (.exit 0))) (aQ (.block 1 (aQ (ak [U 11 4,aG 12 .gtr dy (aE 0)] (a8 12 (b1 [U 13 3,aG 14 .add dS (be [44,32]),U 3 14]) .skip)) (b1 [U 15 3,U 16 0,U 17 4,cU 18 6 fb eA,cr 19 6 18,bi 20 28 [eS],aG 21 .add dq gy,U 3 21]))) (b1 [U 9 4,aG 10 .add eT (aE 1),U 4 10])))))) (bd [U 22 3,U 2 22])))
def PN:List bk:=[.t 2]
theorem Um:bY Tryz.prog Tryz.f131 1 Jf PN=true:=by kernel_rfl
def DL:bu:=
 ak [ci 2] (aQ (ak [U 4 0,aG 5 .eql gq (be []),U 6 5,c5 7 6 false 0,bV 8 6 false (.eJ dF (aE 0)),dN 9 6 false 139 [dI],bV 10 6 false (.not eT),bD 11 dt c6 fi,U 12 11,c5 13 12 false 0,bV 14 12 false (.fQ dS),cf 15 12 false .gtr fu (aE 16),bD 16 dR c6 dq] (a8 16 (bd [ci 2]) .skip)) (aQ (ak [bx 3 (aE 0)] (.block 0 (.loop (aQ (ak [U 17 3,U 18 0,aD 19 (.fQ gU),aG 20 .lss eA eS] (a8 20 .skip (.exit 0))) (aQ (.block 1 (ak [U 23 0,U 24 3,aD 25 (.eJ fv fS),bi 26 140 [ha],fE 27 26] (a8 27 (bd [ci 2]) .skip))) (b1 [U 21 3,aG 22 .add fc (aE 1),U 3 22])))))) (bd [l3 2])))
def FK:List bk:=[.t 2]
theorem HJ:bY Tryz.prog Tryz.f132 1 DL FK=true:=by kernel_rfl
def Jb:bu:=
 ak [ci 4] (aQ (ak [bx 5 (aE 0)] (.block 0 (.loop (aQ (ak [U 6 5,U 7 0,cL 8 7,aG 9 .lss dt dI] (a8 9 .skip (.exit 0))) (aQ (.block 1 (ak [U 12 0,U 13 5,cU 14 1 dR dS,aM 15 14,U 16 1,aG 17 .eql dq fb] (a8 17 (bd [l3 4]) .skip))) (b1 [U 10 5,aG 11 .add fi (aE 1),U 5 11])))))) (bd [ci 4]))
def PL:List bk:=[.t 4]
theorem Uk:bY Tryz.prog Tryz.f133 2 Jb PL=true:=by kernel_rfl
def Jg:bu:=
 ak [bx 0 (.c .aV)] (bd [aD 1 (.dA 9 1 28 [.str []] [(0,be [97,103,97,105,110]),(1,be [97,110,100]),(2,be [97,115]),(3,be [97,116]),(4,be [99,97,108,108]),(5,be [99,104,111,105,99,101]),(6,be [101,108,115,101]),(7,be [102,114,111,109]),(8,be [105,102]),(9,be [105,110,116]),(10,be [108,101,110]),(11,be [108,111,111,112]),(12,be [109,101,115,115,97,103,101]),(13,be [111,102]),(14,be [111,102,102,101,114]),(15,be [111,110]),(16,be [111,114]),(17,be [112,97,114]),(18,be [112,108,97,121,115]),(19,be [112,114,111,116,111,99,111,108]),(20,be [115,101,114,118,105,99,101]),(21,be [116,101,120,116]),(22,be [116,105,109,101,115]),(23,be [116,111]),(24,be [118,97,114]),(25,be [119,104,101,114,101]),(26,be [119,104,105,108,101]),(27,be [119,105,116,104,105,110])]),U 0 1])
def PO:List bk:=[.t 0]
theorem Un:bY Tryz.prog Tryz.f134 0 Jg PO=true:=by kernel_rfl
def JD:bu:=
 ak [aD 1 (.box 93 gp),ci 2] (aQ (ak [aI 3 0 1,aM 4 3] (.block 0 (ak [aG 6 .eql gq (aE 1),U 5 6] (a8 5 (bd [aI 7 1 1,aM 8 7,aG 9 .geq dI (aE (-1000)),U 10 9,bl 11 10 true 1 1,bm 12 10 true 11,cf 13 10 true .leq dR (aE 1000),bD 14 fi dS cG,U 15 14,bl 16 15 true 2 1,bm 17 15 true 16,cf 18 15 true .eql eA (be []),bD 19 dq gU cG,U 2 19]) (ak [aG 21 .eql gq (aE 2),U 20 21] (a8 20 (bd [aI 22 1 1,aM 23 22,aG 24 .eql fv (aE 0),U 25 24,bl 26 25 true 2 1,bm 27 25 true 26,bV 28 25 true (.fQ gG),cf 29 25 true .leq fB (aE 40),bD 30 ha hE cG,U 31 30,bl 32 31 true 2 1,bm 33 31 true 32,dN 34 31 true 185 [ib],bD 35 gH lu cG,U 2 35]) .skip)))))) (bd [ci 2]))
def PP:List bk:=[.t 2]
theorem Uo:bY Tryz.prog Tryz.f135 1 JD PP=true:=by kernel_rfl
def JM:bu:=
 ak [ci 2] (bd [U 3 0,bi 4 58 [fm],U 2 4])
def PQ:List bk:=[.t 2]
theorem Up:bY Tryz.prog Tryz.f136 1 JM PQ=true:=by kernel_rfl
def JO:bu:=
 ak [aD 1 (.box 51 gp),ci 2] (ak [aI 7 0 1,aM 8 7,aD 9 (.build [.int .i64 0,.str [],.str [],.str [],.int .i64 0,.aV] [(0,1,dI)]),aD 3 (.alloc 51 [.int .i64 0,.str [],.str [],.str [],.int .i64 0,.aV]),bZ 6 3 eT] (ak [bx 4 (aE 0),l3 5] (aQ (ak [aI 10 0 1,aM 11 10] (.block 0 (ak [aG 13 .eql dy (aE 1),U 12 13] (a8 12 (ak [aI 14 4 1,aM 15 14,aI 16 4 3,bZ 1 16 dq] (b1 [aI 17 4 1,aM 18 17,aG 19 .geq gU (aE 0),U 20 19,bl 21 20 true 4 1,bm 22 20 true 21,cf 23 20 true .leq fl (aE 1000),bD 24 gy fv cG,U 5 24])) (ak [aG 26 .eql dy (aE 2),U 25 26] (a8 25 (ak [aI 27 3 1,aM 28 27,aI 29 3 3,bZ 1 29 fB] (b1 [aI 30 3 1,aM 31 30,bi 32 96 [gH],bi 33 135 [jz],U 5 33])) (ak [aG 35 .eql dy (aE 3),U 34 35] (a8 34 (ak [aI 36 2 1,aM 37 36,aI 38 2 3,bZ 1 38 j4] (b1 [aI 39 2 1,aM 40 39,bi 41 58 [kv],U 5 41])) (ak [aG 43 .eql dy (aE 4),U 42 43] (a8 42 (b1 [bx 4 (aE 1)]) (ak [aG 45 .eql dy (aE 5),U 44 45] (a8 44 (ak [aI 46 1 1,aM 47 46,aI 48 1 3,bZ 1 48 mL,bx 4 (aE 1)] (b1 [aI 49 1 1,aM 50 49,aG 51 .eql kw (be [45]),U 52 51,bl 53 52 false 1 1,bm 54 52 false 53,cf 55 52 false .eql kX (be [33]),bD 56 ns c6 lO,U 5 56])) (ak [aG 58 .eql dy (aE 6),U 57 58] (a8 57 (ak [aI 59 1 1,aM 60 59,aI 61 1 3,bZ 1 61 lP,bx 4 (aE 2)] (b1 [aI 62 1 1,aM 63 62,bi 64 24 [q5],aG 65 .gtr oE (aE 0),U 5 65])) (bd [ci 2]))))))))))))))) (aQ (ak [U 66 5,fE 67 66,U 68 67,bl 69 68 false 5 1,bm 70 68 false 69,bV 71 68 false (.len p8),c5 72 68 false 4,cf 73 68 false .neq q8 tw,bD 74 si c6 sj,U 75 74,bl 76 75 false 1 3,bm 77 75 false 76,bl 78 75 false 1 1,bm 79 75 false 78,cf 80 75 false .neq sk wa,bD 81 v8 c6 xW,U 82 81,bl 83 82 false 2 3,bm 84 82 false 83,bl 85 82 false 2 1,bm 86 82 false 85,cf 87 82 false .neq xY uT,bD 88 wb c6 CD,U 89 88,bl 90 89 false 3 3,bm 91 89 false 90,bl 92 89 false 3 1,bm 93 89 false 92,cf 94 89 false .neq wg x0,bD 95 xZ c6 zT,U 96 95,bl 97 96 false 4 3,bm 98 96 false 97,bl 99 96 false 4 1,bm 100 96 false 99,cf 101 96 false .neq x3 zK,bD 102 x2 c6 Gm] (a8 102 (bd [ci 2]) .skip)) (aQ (ak [bx 6 (aE 0)] (.block 1 (.loop (aQ (ak [U 103 6,U 104 4,aG 105 .lss zL Cw] (a8 105 .skip (.exit 1))) (aQ (.block 2 (ak [aI 108 5 1,aM 109 108,U 110 6,cU 111 6 zN Cy,cr 112 6 111,bi 113 137 [CA],fE 114 113] (a8 114 (bd [ci 2]) .skip))) (b1 [U 106 6,aG 107 .add zM (aE 1),U 6 107])))))) (bd [l3 2]))))))
def PS:List bk:=[.t 2]
theorem Ur:bY Tryz.prog Tryz.f137 1 JO PS=true:=by kernel_rfl
def JW:bu:=
 ak [aD 1 (.box 51 gp),bx 2 (aE 0)] (ak [bx 3 (aE 0)] (aQ (ak [bx 4 (aE 0)] (.block 0 (.loop (aQ (ak [U 5 4,aI 6 5 1,aM 7 6,cL 8 7,aG 9 .lss eG dI] (a8 9 .skip (.exit 0))) (aQ (.block 1 (b1 [U 12 3,aI 13 5 1,aM 14 13,U 15 4,cU 16 6 fu dq,cr 17 6 16,bi 18 138 [eA],aD 19 (.nR true [dR,gU]),U 3 19])) (b1 [U 10 4,aG 11 .add fi (aE 1),U 4 11])))))) (bd [U 20 3,aG 21 .add gy (aE 1),U 2 21])))
def PY:List bk:=[.t 2]
theorem Ux:bY Tryz.prog Tryz.f138 1 JW PY=true:=by kernel_rfl
def Jh:bu:=
 ak [ci 2] (bd [U 3 0,aG 4 .geq fm (.c (.int .u8 97)),U 5 4,c5 6 5 true 0,cf 7 5 true .leq dt (.c (.int .u8 122)),bD 8 eG dF cG,U 9 8,c5 10 9 false 0,cf 11 9 false .geq fi (.c (.int .u8 65)),c5 12 9 false 11,c5 13 12 true 0,cf 14 12 true .leq dS (.c (.int .u8 90)),bV 15 9 false (.pick dR fu cG),bD 16 eT c6 dq,U 2 16])
def PR:List bk:=[.t 2]
theorem Uq:bY Tryz.prog Tryz.f139 1 Jh PR=true:=by kernel_rfl
def Ji:bu:=
 ak [ci 2] (bd [U 3 0,bi 4 139 [fm],U 5 4,c5 6 5 false 0,dN 7 5 false 141 [dt],bD 8 eG c6 dF,U 9 8,c5 10 9 false 0,cf 11 9 false .eql fi (.c (.int .u8 95)),bD 12 eT c6 dy,U 2 12])
def PT:List bk:=[.t 2]
theorem Us:bY Tryz.prog Tryz.f140 1 Ji PT=true:=by kernel_rfl
def Jj:bu:=
 ak [ci 2] (bd [U 3 0,aG 4 .geq fm (.c (.int .u8 48)),U 5 4,c5 6 5 true 0,cf 7 5 true .leq dt (.c (.int .u8 57)),bD 8 eG dF cG,U 2 8])
def PU:List bk:=[.t 2]
theorem Ut:bY Tryz.prog Tryz.f141 1 Jj PU=true:=by kernel_rfl
def uV:bu:=
 ak [aD 2 (.box 165 gp),bx 4 (be [])] (aQ (ak [aI 6 0 2,aM 7 6] (.block 0 (ak [aG 9 .eql dF (aE 1),U 8 9] (a8 8 (aQ (.region [aI 10 1 2,aM 11 10,aG 12 .add dy (be [32,61,32]),aI 13 2 2,cr 14 6 13,fI 15 28 [fu],aG 16 .add dR dq,aG 17 .add fb (be [59]),U 4 17] true) .ret) (ak [aG 19 .eql dF (aE 3),U 18 19] (a8 18 (aQ (.region [aI 20 2 2,cr 21 6 20,fI 22 28 [fc],aG 23 .add (be [119,104,105,108,101,32]) fl,aG 24 .add fv (be [32,116,105,109,101,115,32]),aI 25 8 2,aM 26 25,fI 27 75 [fA],aG 28 .add fS gG,aG 29 .add fB (be [32]),aI 30 9 2,aM 31 30,U 32 1,fI 33 130 [gH,jz],aG 34 .add hE ib,U 4 34] true) .ret) .skip)))))) (aQ (.region [aI 35 2 2,cr 36 6 35,fI 37 28 [ic],aG 38 .add (be [105,102,32]) j4,aG 39 .add ku (be [32]),aI 40 9 2,aM 41 40,U 42 1,fI 43 130 [mI,lN],aG 44 .add lx jh,U 5 44] true) (aQ (.block 1 (ak [aI 46 10 2,aM 47 46,cL 48 47,aG 49 .eql ly (aE 0),U 45 49] (a8 45 (bd [U 50 5,U 4 50]) (ak [aI 52 10 2,aM 53 52,cL 54 53,aG 55 .eql kX (aE 1),U 56 55,bl 57 56 true 10 2,bm 58 56 true 57,bV 59 56 true (.fW 11 kY (aE 0)),bl 60 56 true 0 59,bm 61 56 true 60,cf 62 56 true .eql tv (aE 2),bD 63 kx sh cG,U 51 63] (a8 51 (bd [U 64 5,aG 65 .add oE (be [32,101,108,115,101,32]),aI 66 10 2,aM 67 66,cU 68 11 q6 (aE 0),cr 69 11 68,U 70 1,bi 71 184 [q7,p8],aG 72 .add oF q8,U 4 72]) .skip))))) (bd [U 73 5,aG 74 .add sj (be [32,101,108,115,101,32]),aI 75 10 2,aM 76 75,U 77 1,bi 78 130 [zR,sk],aG 79 .add tx CC,U 4 79]))))
def vV:List bk:=[.t 4]
theorem wv:bY Tryz.prog Tryz.f184 2 uV vV=true:=by kernel_rfl
def JZ:bu:=
 ak [ci 2] (aQ (ak [bx 3 (aE 0)] (.block 0 (.loop (aQ (ak [U 4 3,U 5 0,aD 6 (.fQ eG),aG 7 .lss gq dt] (a8 7 .skip (.exit 0))) (aQ (.block 1 (ak [U 10 0,U 11 3,aD 12 (.eJ fi dy),aG 13 .lss dR (.c (.int .u8 32)),U 14 13,c5 15 14 false 0,c5 16 14 false 3,bV 17 14 false (.eJ dq fb),cf 18 14 false .gtr eA (.c (.int .u8 126)),bD 19 fu c6 gU] (a8 19 (bd [ci 2]) .skip))) (b1 [U 8 3,aG 9 .add dI (aE 1),U 3 9])))))) (bd [l3 2]))
def QA:List bk:=[.t 2]
theorem U9:bY Tryz.prog Tryz.f185 1 JZ QA=true:=by kernel_rfl
def AE:bu:=
 ak [aD 2 (.box 35 gp),ci 4] (aQ (ak [bi 13 11 [],fE 14 13] (a8 14 (bd [ci 4]) .skip)) (aQ (ak [aD 15 (.hr 2 true 6 zQ),bi 16 17 [dq],fE 17 16,U 18 17,bV 19 18 false (.hr 2 true 6 zQ),dN 20 18 false 21 [eS],bV 21 18 false (.not gy),bD 22 gU c6 fc] (a8 22 (bd [l3 4]) .skip)) (ak [U 23 1,aD 24 (.conv .i64 fv),aI 25 4 2,aM 26 25,cL 27 26,aG 28 .add gG (aE 1),aG 29 .rem fS fB,U 5 29] (aQ (.region [aD 30 (.hr 2 true 6 zQ),aD 31 (.hr 2 true 6 zQ),aD 32 (.hr 2 true 6 zQ),aD 6 (.alloc 35 [.str [],.str [],.str [],.aV,.aV,.aV]),aD 7 (.alloc 35 [.str [],.str [],.str [],.aV,.aV,.aV]),aD 8 (.alloc 35 [.str [],.str [],.str [],.aV,.aV,.aV]),lE (.fh 6 [2] 6 dt jg),lE (.fh 7 [2] 6 dF gH),bZ 6 8 jz] true) (ak [aI 33 4 2,aM 34 33,U 35 5,aD 36 (.h9 4 lu none (some jA) none),aI 37 4 6,bZ 1 37 ic,aI 38 5 6,bZ 1 38 (.c .aV)] (aQ (.region [aI 39 4 2,aD 40 (.hr 2 false 1 lx),U 41 5,aD 42 (.h9 4 kv (some mI) none none),aI 43 3 7,lE (.fh 7 [2] 1 jh (.c .aV)),aI 44 4 7,lE (.fh 7 [2] 1 mb lN),aI 45 5 7,lE (.fh 7 [2] 1 mJ (.c .aV))] true) (ak [aI 46 3 8,bZ 1 46 (.c .aV),aI 47 4 8,bZ 1 47 (.c .aV)] (aQ (.region [cr 48 6 6,fI 49 29 [ly,c6],cr 50 6 8,fI 51 29 [kw,cG],aG 52 .add oD lz,cr 53 6 7,fI 54 29 [nX,cG],aG 55 .add ns kX,aG 56 .add lO (be [125]),U 9 56] true) (ak [U 58 9,bi 59 12 [kY],U 57 59,aD 60 (.extract 0 nt),aD 61 (.extract 1 nt),aD 62 (.extract 2 nt),aD 10 (.alloc 27 [.str [],.str [],.str [],.aV,.aV,.aV]),bZ 6 10 lP,U 11 61,U 12 62] (aQ (.region [U 63 9,aD 64 (.fQ q5),aG 65 .gtr oE (aE 8000),U 66 65,c5 67 66 false 12,cf 68 66 false .eql q6 (aE 0),c5 69 66 false 68,bV 70 69 true (.load true 6 fi),bV 71 69 true (.hz 15 [p8]),bV 72 69 true (.hr 2 true 6 zQ),bV 73 69 true (.hz 14 [q8,tw]),bV 74 66 false (.pick q7 sj cG),bD 75 p7 c6 tx,U 4 75] true) .ret))))))))))
def Rs:List bk:=[.t 4]
theorem oL:bY Tryz.prog Tryz.f9 2 AE Rs=true:=by kernel_rfl
def J8:bu:=
 ak [aD 2 (.box 35 gp),bx 4 (be [])] (ak [cr 9 6 2,bi 10 20 [eT],U 8 10,aD 11 (.extract 0 dI),aD 12 (.extract 1 dI),U 5 11,U 6 12] (aQ (ak [U 13 5,aD 14 (.fQ dS),aG 15 .lss fu (aE 2)] (a8 15 (bd [bx 4 (be [])]) .skip)) (ak [U 16 5,U 17 5,aD 18 (.fQ eA),aG 19 .sub gU (aE 2),aD 20 (.gE fb none (some eS)),U 5 20] (aQ (ak [bx 7 (aE 0)] (.block 0 (.loop (aQ (ak [U 21 7,U 22 5,aD 23 (.fQ fl),aG 24 .lss fc fv,U 25 24,c5 26 25 true 1,bV 27 25 true (.not fA),bD 28 ha gG cG] (a8 28 .skip (.exit 0))) (aQ (.block 1 (ak [U 31 5,U 32 7,aD 33 (.eJ gH jz),aG 34 .eql ib (.c (.int .u8 10))] (a8 34 (bd [U 35 5,U 36 7,aG 37 .add ic (aE 1),aD 38 (.gE jA (some j4) none),U 4 38]) .skip))) (b1 [U 29 7,aG 30 .add hE (aE 1),U 7 30])))))) (bd [U 39 5,U 4 39])))))
def QH:List bk:=[.t 4]
theorem Vh:bY Tryz.prog Tryz.f29 2 J8 QH=true:=by kernel_rfl
def K5:bu:=
 ak [aD 2 (.alloc 93 [.int .i64 0,.int .i64 0,.str []])] (bd [U 3 0,aD 4 (.build [.int .i64 0,.int .i64 0,.str []] [(0,1,aE 2),(2,1,fm)]),bZ 3 2 gq])
def Rv:List bk:=[.cell true 3 2]
theorem V9:bY Tryz.prog Tryz.f96 1 K5 Rv=true:=by kernel_rfl
end Go.bc.T.N
