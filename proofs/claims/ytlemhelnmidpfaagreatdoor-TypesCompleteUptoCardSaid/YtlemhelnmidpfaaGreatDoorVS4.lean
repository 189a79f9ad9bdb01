/- Part of a proof; own work. -/
import Derived.Test.YtlemhelnmidpfaaGreatDoorProg
import Derived.Test.YtlemhelnmidpfaaGreatDoorVS3
set_option linter.unusedVariables false
set_option linter.unusedSimpArgs false
open Bool renaming and_eq_true→aT0,and_self→aT7
open List renaming length_map→aT1,length_append→aT2,length_cons→aT3,length_nil→aU1,length_drop→bd3,length_take→aX3,set_cons_zero→aY9,set_cons_succ→ba0,map_cons→aU5,mem_cons_of_mem→aY7,flatten_cons→aU3,drop_length_add_append→bg7,take_append_of_le_length→bf9,take_of_length_le→aY8,drop_left→bg4
open Nat renaming blt→aW7,ble→aV2,add_mul→aW4,add_comm→bd0,reduceBEq→bd1,le_of_ble_eq_true→aZ3,reduceAdd→bd2
open Option renaming map_some→aV5
open Go.Proofs.Tryz renaming prog→aS9
namespace Go.aX
open Go
section
variable {P:Program}{aN:List bj}{cF t0:Nat}{k:List e7}{Q:Out→aJ→Prop}{env:Env}{c c1:aJ}{v:I}
theorem vQ.mono {f:FuncId}{fJ:List I}{x:I}{c:aJ}{xI ur:aJ→Prop}(h:vQ P f fJ x c xI) (bs: ∀cB,xI cB→ur cB):vQ P f fJ x c ur:=fun H0 s xV cE H h1 J aA=>
  sX.mono (h H0 s xV cE H h1 J aA) fun df ⟨bF,c1,g1,g2,g3⟩=>⟨bF,c1,g1,bs c1 g2,g3⟩
theorem ay.Vw {d:Nat}{f:FuncId}{cap:List aH}(Qp:I→aJ→Prop) (kt:Env) (AZ: ∀p∈kt,env.get p.1=p.2) (Xy: ∀p∈kt,d≠p.1) (XA: ∀p∈kt,yX p.1 k=true)
    (aO:cT P f=true) (hid: ∀fJ:List I,fJ.length=cap.length→zM P f fJ) (hk:sG k=true)
    (hp: ∀x c1,Qp x c1→vQ P f (cap.map (bi env)) x c1 fun c2=> ∃v,nW aN kt c2.H=some v∧Q (.ret v) c2)
    (h:ay P aN c.bN c.bf k (fun o c=>match o with| .ret v=>Q (.ret v) c| .dW x=>Qp x c) ((d,.fn f (cap.map (bi env)))::env) c):ay P aN cF t0 (.c (.sk d f cap)::k) Q env c:=fun H0 dN s a7 H R bb aF an he ab ac=>by
  have D0:gy s ((d,.fn f (cap.map (bi env)))::env) ((d,.fn f (cap.map (aH.aC a7)))::a7):=he.put (by simp only[aI]; exact⟨_,rfl,nq he cap⟩) (some d)
  have Xl:gy s kt (tmpsOf a7 kt):=fun j=>by
    rcases FU a7 kt j with e|⟨_,e⟩
    ·rw[e]
     exact gy.xw (L5 kt AZ) he j
    ·rw[e]
     exact aI.ec _ _
  refine .sk (fun o av=>match o with
    | .ret x=>R (.ret x) av
    | .dW cE=> ∃bF x c1,bl.dU dN bF∧bl.dU s bF∧Qp x c1∧aI bF x cE∧ea H0 bF c1 av) (tmpsOf a7 kt) (fun j=> ?_) (fun p hp=> ?_) (fun p hp=> ?_) (EG hk) aO (hid _ (aT1 _)) (fun v av h=>h) (fun cE av U=> ?_) ?_
  ·rcases FU a7 kt j with e|⟨e,_⟩<;>rw[e]
   ·exact cR.refl _
   ·exact cR.ec _
  ·obtain⟨q,bs,rfl⟩:=List.mem_map.1 hp
   exact EI (XA q bs)
  ·obtain⟨q,bs,rfl⟩:=List.mem_map.1 hp
   exact Xy q bs
  ·obtain⟨bF,x,c1,jN,b5,cA,dh,fC⟩:=U
   refine sX.mono (hp x c1 cA H0 bF _ cE av (bd.mono b5 _ _ (nq he cap)) dh fC) fun df ⟨s2,c2,g1,⟨v,g2,g3⟩,g4⟩=> ?_
   obtain⟨bp,h1,J⟩:=CT (Xl.mono (b5.trans g1)) g4 g2
   exact⟨bp,h1,ac s2 (.ret v) (.ret bp) c2 df (jN.trans g1) g3 J g4⟩
  ·rw[EH (s1:=s) hk]
   refine h H0 s s _ H _ ab.bN.symm ab.bf.symm (bl.dU.refl s) D0 ab fun bF o o' c1 av b5 cA dh fC=> ?_
   cases o with
   |ret x=>
    cases o' with
    |ret cE=>exact ac bF (.ret x) (.ret cE) c1 av (an.trans b5) cA dh fC
    |dW cE=>cases dh
   |dW x=>
    cases o' with
    |ret cE=>cases dh
    |dW cE=>exact⟨bF,x,c1,an.trans b5,b5,cA,dh,fC⟩
end
section
variable {P:Program}{env:Env}{c:aJ}{anns:List I}{l:List bC}{K:Env→aJ→Prop}{Rp:I→aJ→Prop}{f:FuncId}{args:List aH}{dA:List I}
theorem D.Gr {d:Option Nat}(s:bl){fg:ey}{fr:eA}{n q:Nat}{x:I}(h:aY P f dA (aJ.of n q fg fr) (q1 x)) (hk:Rp x (c.jR s [] []))
    (ah:(s.b.length==n&&(s.t.length==q&&(nodupB s.b&&(nodupB s.t&&(s.b.all (fun x=>aW7 x c.bN)&&(s.t.all (fun x=>aW7 x c.bf)&&(dE n q dA&&(eP n q fg&&(eQ n q fr&&x.dC n q)))))))))=true:=by simp (disch:=omega) only[go_sem,simprocAttr]<;>rfl) (eh:mL c.H.aV s fg:=by repeat first|exact trivial|refine⟨rfl,?_⟩) (dj:mM c.H.tok s fr:=by repeat first|exact trivial|refine⟨rfl,?_⟩) (aL:args.map (bi env)=eO s dA:=by simp (disch:=omega) only[go_sem,simprocAttr]<;>rfl) (ab:x.ek s=x:=by rfl):ai P anns (⟨d,none,.call f args⟩::l) env c K Rp:=by
  simp only[aT0,beq_iff_eq]at ah
  obtain⟨c1,c2,eV,gn,kL,lG,np,oD,l5,nn⟩:=ah
  refine ai.x0 rfl (aY.uH s h c1 c2 (by rw[eV,gn,kL,lG]; rfl) eh dj (by rw[np,oD,l5]; rfl) nn ab rfl) aL ?_ ?_
  ·rintro v c1 ⟨e,_⟩
   cases e
  ·rintro v c1 ⟨e,rfl⟩
   cases e
   exact hk
end
end Go.aX
namespace Go.aX
open Go
structure ow (A:Prop):Prop where
  a:A
theorem ap {A B:Prop}(hk:A) (h:ow A→B:=by intro hk; (repeat' first|refine D.S ?_|refine D.iv true true ?_|refine ai.nil ?_|refine ay.dr ?_|refine D.W ?_|refine D.Z ?_|refine D.X ‹_› ?_|refine D.jU ‹_› ?_|refine D.jV ‹_› ?_); exact hk.a):B:=h ⟨hk⟩
theorem dM {A B:Prop}(hk:A) (h:ow A→B:=by intro hk; (repeat' first|refine D.S ?_|refine ai.nil ?_|refine D.W ?_|refine D.Z ?_|refine D.X ‹_› ?_|refine D.jU ‹_› ?_|refine D.jV ‹_› ?_); exact hk.a):B:=h ⟨hk⟩
theorem uo {A B:Prop}(hk:A) (h:ow A→B:=by intro hk; ((repeat refine D.iv true true ?_); (refine ay.dr ?_); (repeat' first|refine D.S ?_|refine ai.nil ?_|refine D.W ?_|refine D.Z ?_|refine D.X ‹_› ?_|refine D.jU ‹_› ?_|refine D.jV ‹_› ?_)); exact hk.a):B:=h ⟨hk⟩
theorem bI {A B:Prop}(hk:A) (h:ow A→B:=by intro hk; (repeat' first|(apply ai.s rfl; (·simp (disch:=omega) only[go_sem,simprocAttr,ax]<;>with_reducible rfl))|(apply ay.s true true; (·simp (disch:=omega) only[go_sem,simprocAttr,ax]<;>with_reducible rfl))|apply ai.nil|(refine ay.dr ?_)|(apply ai.fi; (·simp (disch:=omega) only[go_sem,simprocAttr,ax]<;>with_reducible rfl))|(apply ai.fj; (·rfl); (·simp (disch:=omega) only[go_sem,simprocAttr,ax]<;>with_reducible rfl))|((first|apply ai.fl|apply ai.fm|apply ai.fo); (·simp (disch:=omega) only[go_sem,simprocAttr,ax]<;>with_reducible rfl); (·simp (disch:=omega) only[go_sem,simprocAttr,ax]<;>with_reducible rfl); (·assumption); (·omega))); exact hk.a):B:=h ⟨hk⟩
theorem vT {A B:Prop}(hk:A) (h:ow A→B:=by intro hk; (repeat' first|(apply ai.s rfl; (·simp (disch:=omega) only[go_sem,simprocAttr,ax]<;>with_reducible rfl))|(apply ay.s true false; (·simp (disch:=omega) only[go_sem,simprocAttr,ax]<;>with_reducible rfl))|apply ai.nil|(refine ay.dr ?_)|(apply ai.fi; (·simp (disch:=omega) only[go_sem,simprocAttr,ax]<;>with_reducible rfl))|(apply ai.fj; (·rfl); (·simp (disch:=omega) only[go_sem,simprocAttr,ax]<;>with_reducible rfl))|((first|apply ai.fl|apply ai.fm|apply ai.fo); (·simp (disch:=omega) only[go_sem,simprocAttr,ax]<;>with_reducible rfl); (·simp (disch:=omega) only[go_sem,simprocAttr,ax]<;>with_reducible rfl); (·assumption); (·omega))); exact hk.a):B:=h ⟨hk⟩
theorem sY {A B:Prop}(hk:A) (h:ow A→B:=by intro hk; (repeat' first|(apply ai.s rfl; (·simp (disch:=omega) only[go_sem,simprocAttr,ax]<;>with_reducible rfl))|apply ai.nil|(apply ai.fi; (·simp (disch:=omega) only[go_sem,simprocAttr,ax]<;>with_reducible rfl))|(apply ai.fj; (·rfl); (·simp (disch:=omega) only[go_sem,simprocAttr,ax]<;>with_reducible rfl))|((first|apply ai.fl|apply ai.fm|apply ai.fo); (·simp (disch:=omega) only[go_sem,simprocAttr,ax]<;>with_reducible rfl); (·simp (disch:=omega) only[go_sem,simprocAttr,ax]<;>with_reducible rfl); (·assumption); (·omega))); exact hk.a):B:=h ⟨hk⟩
theorem Gs {A B:Prop}(hk:A) (h:ow A→B:=by intro hk; ((repeat (apply ay.s true true; (·simp (disch:=omega) only[go_sem,simprocAttr,ax]<;>with_reducible rfl))); (refine ay.dr ?_); (repeat' first|(apply ai.s rfl; (·simp (disch:=omega) only[go_sem,simprocAttr,ax]<;>with_reducible rfl))|apply ai.nil|(apply ai.fi; (·simp (disch:=omega) only[go_sem,simprocAttr,ax]<;>with_reducible rfl))|(apply ai.fj; (·rfl); (·simp (disch:=omega) only[go_sem,simprocAttr,ax]<;>with_reducible rfl))|((first|apply ai.fl|apply ai.fm|apply ai.fo); (·simp (disch:=omega) only[go_sem,simprocAttr,ax]<;>with_reducible rfl); (·simp (disch:=omega) only[go_sem,simprocAttr,ax]<;>with_reducible rfl); (·assumption); (·omega)))); exact hk.a):B:=h ⟨hk⟩
theorem Cc {A B:Prop}(hk:A) (h:ow A→B:=by intro hk; (repeat (apply ay.s true true; (·simp (disch:=omega) only[go_sem,simprocAttr,ax]<;>with_reducible rfl))); exact hk.a):B:=h ⟨hk⟩
theorem fX {A B:Prop}(hk:A) (h:ow A→B:=by intro hk; (repeat' first|(apply ai.s rfl; (·simp (disch:=omega) only[go_sem,simprocAttr,ax,z2]<;>with_reducible rfl))|(apply ay.s true true; (·simp (disch:=omega) only[go_sem,simprocAttr,ax,z2]<;>with_reducible rfl))|apply ai.nil|(refine ay.dr ?_)|(apply ai.fi; (·simp (disch:=omega) only[go_sem,simprocAttr,ax,z2]<;>with_reducible rfl))|(apply ai.fj; (·rfl); (·simp (disch:=omega) only[go_sem,simprocAttr,ax,z2]<;>with_reducible rfl))|((first|apply ai.fl|apply ai.fm|apply ai.fo); (·simp (disch:=omega) only[go_sem,simprocAttr,ax,z2]<;>with_reducible rfl); (·simp (disch:=omega) only[go_sem,simprocAttr,ax,z2]<;>with_reducible rfl); (·assumption); (·omega))); exact hk.a):B:=h ⟨hk⟩
theorem Ru {A B:Prop}(hk:A) (h:ow A→B:=by intro hk; (repeat' first|(apply ai.s rfl; (·simp (disch:=omega) only[go_sem,simprocAttr,ax,z2]<;>with_reducible rfl))|apply ai.nil|(apply ai.fi; (·simp (disch:=omega) only[go_sem,simprocAttr,ax,z2]<;>with_reducible rfl))|(apply ai.fj; (·rfl); (·simp (disch:=omega) only[go_sem,simprocAttr,ax,z2]<;>with_reducible rfl))|((first|apply ai.fl|apply ai.fm|apply ai.fo); (·simp (disch:=omega) only[go_sem,simprocAttr,ax,z2]<;>with_reducible rfl); (·simp (disch:=omega) only[go_sem,simprocAttr,ax,z2]<;>with_reducible rfl); (·assumption); (·omega))); exact hk.a):B:=h ⟨hk⟩
theorem lY {A B:Prop}(hk:A) (h:ow A→B:=by intro hk; ((repeat (apply ay.s true true; (·simp (disch:=omega) only[go_sem,simprocAttr,ax,z2]<;>with_reducible rfl))); (refine ay.dr ?_); (repeat' first|(apply ai.s rfl; (·simp (disch:=omega) only[go_sem,simprocAttr,ax,z2]<;>with_reducible rfl))|apply ai.nil|(apply ai.fi; (·simp (disch:=omega) only[go_sem,simprocAttr,ax,z2]<;>with_reducible rfl))|(apply ai.fj; (·rfl); (·simp (disch:=omega) only[go_sem,simprocAttr,ax,z2]<;>with_reducible rfl))|((first|apply ai.fl|apply ai.fm|apply ai.fo); (·simp (disch:=omega) only[go_sem,simprocAttr,ax,z2]<;>with_reducible rfl); (·simp (disch:=omega) only[go_sem,simprocAttr,ax,z2]<;>with_reducible rfl); (·assumption); (·omega)))); exact hk.a):B:=h ⟨hk⟩
theorem zO {A B:Prop}(hk:A) (h:ow A→B:=by intro hk; (repeat (apply ay.s true true; (·simp (disch:=omega) only[go_sem,simprocAttr,ax,z2]<;>with_reducible rfl))); exact hk.a):B:=h ⟨hk⟩
theorem fY {A B:Prop}(hk:A) (h:ow A→B:=by intro hk; (repeat' first|(apply ai.s rfl; (·simp (disch:=omega) only[go_sem,simprocAttr,ax,z2,z3]<;>with_reducible rfl))|(apply ay.s true true; (·simp (disch:=omega) only[go_sem,simprocAttr,ax,z2,z3]<;>with_reducible rfl))|apply ai.nil|(refine ay.dr ?_)|(apply ai.fi; (·simp (disch:=omega) only[go_sem,simprocAttr,ax,z2,z3]<;>with_reducible rfl))|(apply ai.fj; (·rfl); (·simp (disch:=omega) only[go_sem,simprocAttr,ax,z2,z3]<;>with_reducible rfl))|((first|apply ai.fl|apply ai.fm|apply ai.fo); (·simp (disch:=omega) only[go_sem,simprocAttr,ax,z2,z3]<;>with_reducible rfl); (·simp (disch:=omega) only[go_sem,simprocAttr,ax,z2,z3]<;>with_reducible rfl); (·assumption); (·omega))); exact hk.a):B:=h ⟨hk⟩
section
variable {P:Program}{env:Env}{c:aJ}{anns:List I}{l:List bC}{K:Env→aJ→Prop}{Rp:I→aJ→Prop}{x y i cm ae:aH}{ei Yz:IntKind}{z ul:Int}{size:Nat}{rows new:List (List I)}{row:List I}{a b:List UInt8}
theorem D.ij {d:Nat}(h:ai P anns l ((d,.str (a++b))::env) c K Rp) (U:bi env x= .str a:=by simp (disch:=omega) only[go_sem,simprocAttr]<;>with_reducible rfl) (bg:bi env y= .str b:=by simp (disch:=omega) only[go_sem,simprocAttr]<;>with_reducible rfl) (hb:a.length+b.length≤maxLen:=by simp only[aT2,aT3,aU1,maxLen]; omega):ai P anns (⟨some d,none,.bin .add x y⟩::l) env c K Rp:=ai.Uk U bg hb h
theorem D.jz {T bytes t d:Nat}(h:ai P anns l ((d,.own t size (rows++new))::env) (c.b7 t (.bP T size (rows.length+new.length))) K Rp) (U:bi env x= .own t size rows:=by simp (disch:=omega) only[go_sem,simprocAttr]<;>with_reducible rfl) (aF:c.H.tok t=some (.bP T size rows.length):=by simp (disch:=omega) only[go_sem,simprocAttr]<;>with_reducible rfl) (bg:rowsOf size (bi env y)=some new:=by simp only[rowsOf]<;>simp (disch:=omega) only[go_sem,simprocAttr]<;>with_reducible rfl) (hb:(rows.length+new.length)*bytes≤140737488355328:=by first|omega|(simp only[aT1,bd3,aX3,aT2,aU1,aT3,maxLen]<;>omega)) (hm:rows.length+new.length≤maxLen:=by first|omega|(simp only[aT1,bd3,aX3,aT2,aU1,aT3,maxLen]<;>omega)):ai P anns (⟨some d,none,.append T size bytes x y⟩::l) env c K Rp:=ai.GV U aF bg hb hm h
theorem D.oj {p d:Nat}(ab:rows[p]? =some row) (h:ai P anns l ((d,.dL row 0)::env) c K Rp) (U:bi env x= .ak size rows:=by simp (disch:=omega) only[go_sem,simprocAttr]<;>with_reducible rfl) (ae:bi env i= .int ei z:=by simp (disch:=omega) only[go_sem,simprocAttr]<;>with_reducible rfl) (e:z=p:=by omega):ai P anns (⟨some d,none,.gS size x i⟩::l) env c K Rp:=ai.LV ab U ae e h
end
end Go.aX
namespace Go.aX
open Go
inductive q0:List (List I)→List (List I)→Prop
  |nil:q0 [] []
  |cons {a b:List I}{az bU:List (List I)}(h:dD a b) (t:q0 az bU):q0 (a::az) (b::bU)
theorem dD.len: ∀ {az bU:List I},dD az bU→az.length=bU.length
  |[],_,h=>by simp only[dD]at h; subst h; rfl
  |a::az,_,h=>by
   simp only[dD]at h
   obtain⟨b,bU,rfl,_,J⟩:=h
   simp only[aT3,dD.len J]
theorem G1 {m:Mem}: ∀ {az bU:List I}{b o:Nat},dD az bU→ez m az b o→ez m bU b o
  |[],_,b,o,h,k=>by simp only[dD]at h; subst h; exact k
  |a::az,_,b,o,h,k=>by
   simp only[dD]at h
   obtain⟨x,xs,rfl,h1,J⟩:=h
   simp only[ez]at k ⊢
   obtain⟨⟨v,aj,aq,bD,da⟩,fh⟩:=k
   exact⟨⟨v,aj,aq,bD,h1 m v da⟩,G1 J fh⟩
theorem q0.len: ∀ {az bU:List (List I)},q0 az bU→az.length=bU.length
  | _,_,.nil=>rfl
  | _,_,.cons _ t=>by simp only[aT3,q0.len t]
theorem q0.Qc {m:Mem}{size:Nat}: ∀ {az bU:List (List I)}{b o:Nat},q0 az bU→dy m size az b o→dy m size bU b o
  | _,_,b,o,.nil,k=>k
  | _,_,b,o,.cons h t,k=>by
    simp only[dy]at k ⊢
    exact⟨by rw[←h.len]; exact k.1,G1 h k.2.1,q0.Qc t k.2.2⟩
theorem Cr {n:Nat}{az bU:List (List I)}(h:q0 az bU):cR (.ak n az) (.ak n bU):=fun m v k=>by
  simp only[aK]at k ⊢
  rw[←h.len]
  obtain⟨a,len,cap,aj,aq,bD,da⟩:=k
  refine⟨a,len,cap,aj,aq,bD,?_⟩
  rcases da with e|⟨b,o,fh,l6⟩
  ·exact .inl e
  ·exact .inr ⟨b,o,fh,h.Qc l6⟩
theorem Pure.le {P:Program}{f:FuncId}{az bU:List I}{r:I}(h:Pure P f bU r) (aE:dD az bU):Pure P f az r:=fun H m ak aj aq bD=>h H m ak aj aq (dD.BO aE bD)
section
variable {P:Program}{aN:List bj}{cF t0:Nat}{k:List e7}{Q:Out→aJ→Prop}{env:Env}{c:aJ}
theorem ay.aI5 (p o size:Nat){T:TypeId}{cs:List I}(hb:c.H.aV p=some (T,cs)) (af:cs[o]? =some .bn) (h:ay P aN cF t0 k Q env (c.cc p T (cs.set o (.ak size [])))):ay P aN cF t0 k Q env c:=fun H0 dN s a7 H R bb aF an he ab ac=>by
  obtain⟨x,cn,b5,cA,dh⟩:=ab.aV p T cs hb
  have lj:cn[o]? =some .bn:=by
    obtain⟨v,aj,aq⟩:=dh.get o _ af
    simp only[aI]at aq
    rw[aj,aq]
  refine ci.conv (fun cd av=>cd=a7∧av=H.cc x T (cn.set o (.ak size []))) ?_ ?_
  ·intro m hH aZ
   subst hH
   obtain⟨l,pA,kv,uZ⟩:=aZ.aV x T cn cA
   obtain⟨v,va,qu⟩:=kv.get o _ lj
   have v1:aK m (.ak size []) v:=cR.nil m v qu
   have qp:=kv.set o v1
   rw[yP va]at qp
   have cp:=bG.ic aZ (w':=m.w) (b:=x) (T:=T) cA rfl rfl rfl rfl (fun _ _=>rfl) pA qp uZ
   have aq:=bH.ic aZ (w':=m.w) (b:=x) (T:=T) (cs:=cn.set o (.ak size [])) cA rfl rfl rfl rfl (fun _ _=>rfl)
   exact⟨a7,_,_,_,⟨rfl,rfl⟩,cp,aq,fun j v ad=>aK.aC aq _ _ ad⟩
  ·rintro cd av ⟨rfl,rfl⟩
   refine h H0 dN s _ _ R bb aF an he (ab.cc b5 ?_) ac
   have: ∀ {az l:List I}(_:bd s az l) (n:Nat){a v:I},aI s a v→bd s (az.set n a) (l.set n v):=by
     intro az
     induction az with
     |nil=>intro l h n a v _; simp only[bd]at h; subst h; simp [bd]
     |cons a az b8=>
      intro l h n b v ad
      simp only[bd]at h
      obtain⟨w,ws,rfl,h1,J⟩:=h
      cases n with
      |zero=>simp only[aY9,bd]; exact⟨_,_,rfl,ad,J⟩
      |succ n=>simp only[ba0,bd]; exact⟨_,_,rfl,h1,b8 J n ad⟩
   exact this dh o ((I.j1 _ rfl _).2 rfl)
end
end Go.aX
namespace Go.aX
open Go
def kz (p:List UInt8×Int):List I:=[.str p.1,.int .i64 p.2]
def kD (s:List UInt8):List (List UInt8×Int)→Option Int
  |[]=>none
  |p::l=>if s=p.1 then some p.2 else kD s l
theorem Mg (s:List UInt8): ∀l:List (List UInt8×Int),lm s (l.map kz)=some ((kD s l).map fun n=> .int .i64 n)
  |[]=>rfl
  |p::l=>by
   simp only[aU5,kz,lm,kD]
   by_cases h:s=p.1
   ·rw[if_pos h,if_pos h]
    rfl
   ·rw[if_neg h,if_neg h]
    exact Mg s l
theorem Mv (s:List UInt8) (n:Int): ∀l:List (List UInt8×Int),kD s l=none→j5 s (.int .i64 n) (l.map kz)=some ((l++[(s,n)]).map kz)
  |[],_=>rfl
  |p::l,h=>by
   simp only[kD]at h
   by_cases hk:s=p.1
   ·rw[if_pos hk]at h
    cases h
   ·rw[if_neg hk]at h
    simp only[aU5,kz,j5,if_neg hk,List.cons_append]
    rw[Mv s n l h]
    rfl
section
variable {cN:Program}{env:Env}{c:aJ}{anns:List I}{l:List bC}{K:Env→aJ→Prop}{Rp:I→aJ→Prop}{x y u:aH}{T t ver d:Nat}{s:List UInt8}{m:List (List UInt8×Int)}{n:Int}{g:Option (Nat×Bool)}
theorem D.mk (h:ai cN anns l ((d,.cz c.bf 0)::env) (c.fw (.bk T 0 ([].map kz))) K Rp):ai cN anns (⟨some d,none,.mkMap T⟩::l) env c K Rp:=ai.u rfl rfl h
theorem D.vm (h:ai cN anns l ((d,.cV [.int .i64 ((kD s m).getD 0),.bool (kD s m).isSome])::env) c K Rp) (U:bi env x= .cz t ver:=by simp (disch:=omega) only[go_sem,simprocAttr]<;>with_reducible rfl) (aF:c.H.tok t=some (.bk T ver (m.map kz)):=by simp (disch:=omega) only[go_sem,simprocAttr]<;>with_reducible rfl) (bg:bi env y= .str s:=by simp (disch:=omega) only[go_sem,simprocAttr]<;>with_reducible rfl):ai cN anns (⟨some d,none,.hs true (.int .i64 0) x y⟩::l) env c K Rp:=by
  refine ai.u rfl (v:= .cV [.int .i64 ((kD s m).getD 0),.bool (kD s m).isSome]) (c1:=c) ?_ h
  simp only[dY,k9,e4,U,bg,aF,bB.bk,beq_self_eq_true,b9,I.flat,aT7,cond_true,Mg,aV5,j6,if_true]
  cases kD s m<;>rfl
theorem D.Mh (h:ai cN anns l ((d,.cV [.int .i64 0,.bool false])::env) c K Rp) (U:bi env x= .dI (.map none):=by simp (disch:=omega) only[go_sem,simprocAttr]<;>with_reducible rfl) (bg:bi env y= .str s:=by simp (disch:=omega) only[go_sem,simprocAttr]<;>with_reducible rfl):ai cN anns (⟨some d,none,.hs true (.int .i64 0) x y⟩::l) env c K Rp:=by
  refine ai.u rfl (v:= .cV [.int .i64 0,.bool false]) (c1:=c) ?_ h
  simp only[dY,k9,e4,U,bg,b9,I.flat,aT7,cond_true,j6,if_true]
  rfl
theorem D.mp (hm:kD s m=none) (h:ai cN anns l env (c.b7 t (.bk T ver ((m++[(s,n)]).map kz))) K Rp) (U:bi env x= .cz t ver:=by simp (disch:=omega) only[go_sem,simprocAttr]<;>with_reducible rfl) (aF:c.H.tok t=some (.bk T ver (m.map kz)):=by simp (disch:=omega) only[go_sem,simprocAttr]<;>with_reducible rfl) (bg:bi env y= .str s:=by simp (disch:=omega) only[go_sem,simprocAttr]<;>with_reducible rfl) (hu:bi env u= .int .i64 n:=by simp (disch:=omega) only[go_sem,simprocAttr]<;>with_reducible rfl):ai cN anns (⟨none,none,.mQ x y u⟩::l) env c K Rp:=by
  refine ai.QR rfl (v:= .undef) (c1:=c.b7 t (.bk T ver ((m++[(s,n)]).map kz))) ?_ h
  simp only[dY,k9,U,bg,hu,CR,aF,bB.bk,beq_self_eq_true,I.one,aT7,cond_true,Mv s n m hm,aV5]
end
end Go.aX
namespace Go.aX
open Go
theorem xS {a b:Nat}(h:a≤b):aV2 a b=true:=by rw[Nat.ble_eq]; exact h
theorem vr {α:Type}{f:α→List I}{m:List α}{p:Nat}{w:α}(h:m[p]? =some w):(m.map f)[p]? =some (f w):=by rw[List.getElem?_map,h]; rfl
section
variable {cN:Program}{env:Env}{c:aJ}{anns:List I}{l:List bC}{K:Env→aJ→Prop}{Rp:I→aJ→Prop}{x y i cm ae:aH}{T t ver d p size:Nat}{rows new:List (List I)}{row:List I}{z ul:Int}{ei Yz:IntKind}
theorem D.yS (h:ai cN anns l ((d,.int .i64 rows.length)::env) c K Rp) (U:bi env x= .cz t ver:=by simp (disch:=omega) only[go_sem,simprocAttr]<;>with_reducible rfl) (aF:c.H.tok t=some (.bc T size ver rows):=by simp (disch:=omega) only[go_sem,simprocAttr]<;>with_reducible rfl):ai cN anns (⟨some d,none,.hV x⟩::l) env c K Rp:=by
  refine ai.u rfl (v:= .int .i64 rows.length) (c1:=c) ?_ h
  simp only[dY,k9,e4,U,aF,bB.bc,beq_self_eq_true,cond_true,aV5]
theorem D.qx (p:Nat) (hp:p<rows.length) (h:ai cN anns l ((d,.mp t ver (p*size))::env) c K Rp) (U:bi env x= .cz t ver:=by simp (disch:=omega) only[go_sem,simprocAttr]<;>with_reducible rfl) (aF:c.H.tok t=some (.bc T size ver rows):=by simp (disch:=omega) only[go_sem,simprocAttr]<;>with_reducible rfl) (ae:bi env i= .int ei z:=by simp (disch:=omega) only[go_sem,simprocAttr]<;>with_reducible rfl) (e:z=p:=by omega):ai cN anns (⟨some d,none,.hE size x i⟩::l) env c K Rp:=by
  subst e
  refine ai.u rfl (v:= .mp t ver (p*size)) (c1:=c) ?_ h
  simp only[dY,k9,e4,U,ae,aF,bB.bc,beq_self_eq_true,cond_true,aT7,CP]
  rw[if_pos ⟨by omega,by omega⟩]
  simp
theorem Dx: ∀ {rows:List (List I)}{p size:Nat}{row:List I},(∀r∈rows,r.length=size)→rows[p]? =some row→p*size+size≤rows.flatten.length∧(rows.flatten.drop (p*size)).take size=row
  |[],_,_,_,_,h=>by simp at h
  |r::rows,0,size,row,an,h=>by
   have ab:=an r (by simp)
   simp at h
   subst h
   subst ab
   simp
  |r::rows,p+1,size,row,an,h=>by
   have ab:=an r (by simp)
   obtain⟨h1,J⟩:=Dx (p:=p) (size:=size) (row:=row) (fun x U=>an x (aY7 _ U)) (by simpa using h)
   rw[aU3,aT2,ab,aW4,Nat.one_mul]
   refine⟨by omega,?_⟩
   rw[bd0 (p*size),←ab,bg7,ab]
   exact J
theorem KB: ∀ {rows:List (List I)}{p size:Nat}{row new:List I},(∀r∈rows,r.length=size)→rows[p]? =some row→new.length=size→chunks size rows.length (fs rows.flatten (p*size) new)=rows.set p new
  |[],_,_,_,_,_,h,_=>by simp at h
  |r::rows,0,size,row,new,an,h,bb=>by
   have ab:=an r (by simp)
   have ah: ∀rows:List (List I),(∀r∈rows,r.length=size)→chunks size rows.length rows.flatten=rows:=by
     intro rows
     induction rows with
     |nil=>intro _; rfl
     |cons r rows b8=>
      intro an
      have ab:=an r (by simp)
      simp only[aT3,chunks,aU3]
      rw[bf9 (by omega),aY8 (by omega),←ab,bg4,ab,b8 fun x U=>an x (by simp [U])]
   simp only[aT3,chunks,aU3,fs,Nat.zero_mul,List.take_zero,List.nil_append,Nat.zero_add,aY9]
   rw[bb,←ab,bg4,ab,bf9 (by omega),aY8 (by omega),←bb,bg4,bb,ah rows fun x U=>an x (by simp [U])]
  |r::rows,p+1,size,row,new,an,h,bb=>by
   have ab:=an r (by simp)
   have b8:=KB (p:=p) (size:=size) (row:=row) (new:=new) (fun x U=>an x (aY7 _ U)) (by simpa using h) bb
   have e:fs (r::rows).flatten ((p+1)*size) new=r++fs rows.flatten (p*size) new:=by
     unfold fs
     rw[aU3,aW4,Nat.one_mul,bd0 (p*size),←ab,List.take_length_add_append,show r.length+p*r.length+new.length=r.length+(p*r.length+new.length) by omega,bg7]
     simp only[List.append_assoc]
   rw[e]
   simp only[aT3,chunks,ba0]
   rw[bf9 (by omega),aY8 (by omega),←ab,bg4,ab,b8]
theorem D.tM {agg:Bool}{v:I}(ab:rows[p]? =some row) (an: ∀r∈rows,r.length=size) (h:ai cN anns l ((d,v)::env) c K Rp) (U:bi env x= .mp t ver (p*size):=by simp (disch:=omega) only[go_sem,simprocAttr]<;>with_reducible rfl) (aF:c.H.tok t=some (.bc T size ver rows):=by simp (disch:=omega) only[go_sem,simprocAttr]<;>with_reducible rfl) (ad:I.hJ agg row=some v:=by simp (disch:=omega) only[go_sem,simprocAttr]<;>rfl):ai cN anns (⟨some d,none,.ib agg size x⟩::l) env c K Rp:=by
  obtain⟨h1,J⟩:=Dx an ab
  refine ai.u rfl (v:=v) (c1:=c) ?_ h
  simp only[dY,k9,e4,U,aF,bB.bc,beq_self_eq_true,cond_true,CS]
  rw[if_pos h1,J,ad]
  rfl
theorem D.stM {v:I}(ab:rows[p]? =some row) (an: ∀r∈rows,r.length=size) (h:ai cN anns l env (c.b7 t (.bc T size ver (rows.set p v.cells))) K Rp) (U:bi env x= .mp t ver (p*size):=by simp (disch:=omega) only[go_sem,simprocAttr]<;>with_reducible rfl) (aF:c.H.tok t=some (.bc T size ver rows):=by simp (disch:=omega) only[go_sem,simprocAttr]<;>with_reducible rfl) (bg:bi env y=v:=by simp (disch:=omega) only[go_sem,simprocAttr]<;>with_reducible rfl) (ad:(v.ev&&(v.cells.length==size&&v.cells.all I.one))=true:=by simp (disch:=omega) only[go_sem,simprocAttr]<;>rfl):ai cN anns (⟨none,none,.store size x y⟩::l) env c K Rp:=by
  obtain⟨h1,J⟩:=Dx an ab
  simp only[aT0,beq_iff_eq]at ad
  obtain⟨v1,v2,v3⟩:=ad
  have aE:rows.flatten.length=rows.length*size:=BL an
  refine ai.QR rfl (v:= .undef) (c1:=c.b7 t (.bc T size ver (rows.set p v.cells))) ?_ h
  simp only[dY,k9,U,bg,x2,aF,bB.bc,beq_self_eq_true,v1,v2,v3,aE,aT7,Bool.true_and,Bool.and_true,xS (aE▸h1:p*size+size≤rows.length*size),cond_true]
  rw[KB an ab v2]
theorem D.Cm {bytes:Nat}(h:ai cN anns l ((d,.cz t (ver+1))::env) (c.b7 t (.bc T size (ver+1) (rows++new))) K Rp) (U:bi env x= .cz t ver:=by simp (disch:=omega) only[go_sem,simprocAttr]<;>with_reducible rfl) (aF:c.H.tok t=some (.bc T size ver rows):=by simp (disch:=omega) only[go_sem,simprocAttr]<;>with_reducible rfl) (bg:rowsOf size (bi env y)=some new:=by simp only[rowsOf]<;>simp (disch:=omega) only[go_sem,simprocAttr]<;>with_reducible rfl) (hb:(rows.length+new.length)*bytes≤140737488355328:=by simp only[aT1,aT2,aT3,aU1]<;>omega) (hm:rows.length+new.length≤maxLen:=by simp only[aT1,aT2,aT3,aU1,maxLen]<;>omega):ai cN anns (⟨some d,none,.lD T size bytes x y⟩::l) env c K Rp:=by
  refine ai.u rfl (v:= .cz t (ver+1)) (c1:=c.b7 t (.bc T size (ver+1) (rows++new))) ?_ h
  simp only[dY,k9,U,bg,CN,aF,bB.bc,beq_self_eq_true,xS hb,xS hm,aT7,cond_true]
theorem D.ax7 (aE:rows.length≠0) (h:ai cN anns l ((d,.cz t (ver+1))::env) (c.b7 t (.bc T size (ver+1) rows.tail)) K Rp) (U:bi env x= .cz t ver:=by simp (disch:=omega) only[go_sem,simprocAttr]<;>with_reducible rfl) (aF:c.H.tok t=some (.bc T size ver rows):=by simp (disch:=omega) only[go_sem,simprocAttr]<;>with_reducible rfl):ai cN anns (⟨some d,none,.mo size x (some (.c (.int .i64 1))) none⟩::l) env c K Rp:=by
  refine ai.u rfl (v:= .cz t (ver+1)) (c1:=c.b7 t (.bc T size (ver+1) rows.tail)) ?_ h
  simp only[dY,k9,U,CU,aF,bB.bc,show nu env 0 (some (.c (.int .i64 1)))=some 1 from rfl,show nu env rows.length none=some rows.length from rfl,beq_self_eq_true,xS (Nat.le_refl _),xS (Nat.one_le_iff_ne_zero.2 aE),aT7,cond_true,List.take_length,List.drop_one]
end
section
variable {P:Program}{aN:List bj}{cF t0:Nat}{k:List e7}{Q:Out→aJ→Prop}{env:Env}{c:aJ}
theorem bd.FE {s:bl}: ∀ {az l:List I}(_:bd s az l) (n:Nat){a v:I},aI s a v→bd s (az.set n a) (l.set n v)
  |[],l,h,n,a,v,_=>by simp only[bd]at h; subst h; simp [bd]
  |a::az,l,h,0,b,v,ad=>by
   simp only[bd]at h
   obtain⟨w,ws,rfl,h1,J⟩:=h
   simp only[aY9,bd]
   exact⟨_,_,rfl,ad,J⟩
  |a::az,l,h,n+1,b,v,ad=>by
   simp only[bd]at h
   obtain⟨w,ws,rfl,h1,J⟩:=h
   simp only[ba0,bd]
   exact⟨_,_,rfl,h1,bd.FE J n ad⟩
theorem ay.Gj (p o size t:Nat){T:TypeId}{cs:List I}{rows:List (List I)}(hb:c.H.aV p=some (T,cs)) (af:cs[o]? =some (.own t size rows)) (aO:eD rows=true) (h:ay P aN cF t0 k Q env (c.cc p T (cs.set o (.ak size rows)))):ay P aN cF t0 k Q env c:=fun H0 dN s a7 H R bb aF an he ab ac=>by
  obtain⟨x,cn,b5,cA,dh⟩:=ab.aV p T cs hb
  obtain⟨dk,lj⟩: ∃dk,cn[o]? =some (.own dk size rows):=by
    obtain⟨v,aj,aq⟩:=dh.get o _ af
    simp only[aI]at aq
    obtain⟨y,l,_,rfl,bD⟩:=aq
    obtain rfl:=(nB _ aO _).1 bD
    exact⟨y,aj⟩
  refine ci.conv (fun cd av=>cd=a7∧av=H.cc x T (cn.set o (.ak size rows))) ?_ ?_
  ·intro m hH aZ
   subst hH
   obtain⟨l,pA,kv,uZ⟩:=aZ.aV x T cn cA
   obtain⟨v,va,qu⟩:=kv.get o _ lj
   have v1:aK m (.ak size rows) v:=by
     simp only[aK]at qu ⊢
     exact qu.1
   have qp:=kv.set o v1
   rw[yP va]at qp
   have cp:=bG.ic aZ (w':=m.w) (b:=x) (T:=T) cA rfl rfl rfl rfl (fun _ _=>rfl) pA qp uZ
   have aq:=bH.ic aZ (w':=m.w) (b:=x) (T:=T) (cs:=cn.set o (.ak size rows)) cA rfl rfl rfl rfl (fun _ _=>rfl)
   exact⟨a7,_,_,_,⟨rfl,rfl⟩,cp,aq,fun j v ad=>aK.aC aq _ _ ad⟩
  ·rintro cd av ⟨rfl,rfl⟩
   refine h H0 dN s _ _ R bb aF an he (ab.cc b5 ?_) ac
   exact bd.FE dh o ((I.j1 _ (by simp only[I.flat,aO]) _).2 rfl)
end
mutual
inductive pX (C:aw):I→I→Prop
  |aQ {v r:I}(h:v.aQ=r) (aO:r.flat=true):pX C v r
  |nil {n:Nat}:pX C .bn (.ak n [])
  |cz {t ver T size:Nat}{rows:List (List I)}(h:C.tok t=some (.bc T size ver rows)) (aO:eD rows=true):pX C (.cz t ver) (.ak size rows)
  |agg {az bU:List I}(h:q3 C az bU):pX C (.agg az) (.agg bU)
  |cV {az bU:List I}(h:q3 C az bU):pX C (.cV az) (.cV bU)
inductive q3 (C:aw):List I→List I→Prop
  |nil:q3 C [] []
  |cons {a b:I}{az bU:List I}(h:pX C a b) (t:q3 C az bU):q3 C (a::az) (b::bU)
end
section
variable {C H av:aw}{s:bl}
mutual
theorem pX.bP (ab:HR H s C av): ∀ {v r:I},pX C v r→∀(bp:I),aI s v bp→lX av H bp r
  | _,_,.aQ h aO,bp,ad=>lX.le ab.base (by subst h; exact fun m y bg=>xx _ bp ad aO y bg)
  | _,_,.nil,bp,ad=>lX.le ab.base (by simp only[aI]at ad; subst ad; exact cR.nil)
  | _,_,.cz h aO,bp,ad=>by
    simp only[aI]at ad
    obtain⟨x,aj,rfl⟩:=ad
    obtain⟨z,l,f1,f2,f3⟩:=ab.bc h
    rw[aj]at f1
    cases f1
    obtain rfl:=(nB _ aO _).1 f3
    exact lX.cz ab.base f2 (ab.jK _ _ aj).1
  | _,_,.agg h,bp,ad=>by simp only[aI]at ad; obtain⟨l,rfl,aE⟩:=ad; exact lX.agg (q3.bP ab h l aE)
  | _,_,.cV h,bp,ad=>by simp only[aI]at ad; obtain⟨l,rfl,aE⟩:=ad; exact lX.cV (q3.bP ab h l aE)
theorem q3.bP (ab:HR H s C av): ∀ {az bU:List I},q3 C az bU→∀(l:List I),bd s az l→qX av H l bU
  | _,_,.nil,l,h=>by simp only[bd]at h; subst h; exact qX.nil
  | _,_,.cons h t,l,aE=>by simp only[bd]at aE; obtain⟨v,ak,rfl,h1,J⟩:=aE; exact qX.cons (pX.bP ab h v h1) (q3.bP ab t ak J)
end
end
def Ry (r:I):Out→aJ→Prop:=fun o c=> ∃v,o= .ret v∧pX c.H v r
theorem NQ {P:Program}{f:FuncId}{az:List I}{aN:List bj}{r:I}{fn:Func}{e:bu}(hm:P.follows .mixedOrders=true) (aO:P.funcs[f]? =some fn) (ah:b4 P fn az.length e aN=true) (aL:b9 az=true) (h:ay P aN 0 0 [.c e] (Ry r) (kR az) .new):Pure P f az r:=fun H=>
  (aY.intro hm aO ah h H ⟨[],[]⟩ az H ((lM az aL _).2 rfl) (ea.start H)).bP fun o av ⟨bF,eS,c1,eG,a2,a3,a4⟩=>by
    obtain⟨v,aj,aq⟩:=a2
    subst aj
    cases o with
    |dW w=>simp only[jy]at a3
    |ret w=>exact⟨.ret r,H,pX.bP a4.toHR aq w a3,a4.base,rfl,rfl⟩
section
variable {P:Program}{anns:List I}{l:List bC}{env:Env}{c:aJ}{K:Env→aJ→Prop}{Rp:I→aJ→Prop}{f:FuncId}{az:List I}{T size:Nat}{rows:List (List I)}
theorem aY.ab2 (h:zU P f az T size rows) (aO:b9 az=true) (ab:eD rows=true):aY P f az c (lB (.cz c.bf 0) (c.fw (.bc T size 0 rows))):=fun H0 s ha H aL a8=>by
  obtain rfl:=(lM az aO _).1 aL
  refine (h H).mono fun o av ⟨t,h1,J,aA⟩=> ?_
  subst J aA
  refine⟨.ret (.cz t 0),_,cR.refl _,HSub.refl _,⟨s.b,s.t++[t]⟩,.ret (.cz c.bf 0),_,bl.jJ s t,⟨rfl,rfl⟩,?_,a8.fw (gm.bc ((nB rows ab _).2 rfl)) h1⟩
  simp only[jy,aI]
  exact⟨t,by rw[a8.bf]; exact mE,rfl⟩
theorem D.Rw {d:Nat}{args:List aH}(h:zU P f az T size rows) (hk:ai P anns l ((d,.cz c.bf 0)::env) (c.fw (.bc T size 0 rows)) K Rp) (aL:args.map (bi env)=az:=by simp (disch:=omega) only[go_sem,simprocAttr]<;>with_reducible rfl) (aO:b9 az=true:=by simp (disch:=omega) only[go_sem,simprocAttr]<;>rfl) (ab:eD rows=true:=by simp (disch:=omega) only[go_sem,simprocAttr]<;>rfl):ai P anns (⟨some d,none,.call f args⟩::l) env c K Rp:=ai.re rfl (aY.ab2 h aO ab) aL hk
end
end Go.aX
namespace Go.aX
open Go
section
variable {P:Program}{env:Env}{c c1:aJ}{v bp:I}{anns:List I}{l:List bC}{K:Env→aJ→Prop}{Rp:I→aJ→Prop}{f:FuncId}{args:List aH}{az dA cap:List I}{others:List Nat}{x:aH}
theorem L0 {s bF:bl}{H0 H av:aw}{a7:Env}(he:gy s env a7) (ab:ea H0 s c H) (b5:bl.dU s bF) (bb:c1.bN=c.bN) (aF:c1.bf=c.bf) (lS:ea H0 bF c1 av) (j:Nat) (af: ∃bJ cu cn,env.get j= .ptr bJ 0∧c.H.aV bJ=some (cu,cn)∧c1.H.aV bJ=some (cu,cn)∧ot cn=true) (y:Nat) (bg:a7.get j= .ptr y 0):av.aV y=H.aV y:=by
  have:bF=s:=b5.eq (by rw[←lS.bN,bb,ab.bN]) (by rw[←lS.bf,aF,ab.bf])
  subst this
  obtain⟨bJ,cu,cn,aj,aq,bD,da⟩:=af
  have il:=he j
  rw[aj]at il
  simp only[aI]at il
  obtain⟨z,g1,g2⟩:=il
  rw[bg]at g2
  cases g2
  obtain⟨w,aR,cb,cp,c5⟩:=ab.aV bJ cu cn aq
  obtain⟨nh,fp,gu,lT,vA⟩:=lS.aV bJ cu cn bD
  rw[g1]at cb gu
  cases cb
  cases gu
  rw[cp,lT,bd.same cn aR fp da c5 vA]
theorem ea.sub {H0 H:aw}{s:bl}(ab:ea H0 s c H) (eh: ∀b y,c1.H.aV b=some y→c.H.aV b=some y) (dj: ∀t y,c1.H.tok t=some y→c.H.tok t=some y) (bb:c1.bN=c.bN) (aF:c1.bf=c.bf):ea H0 s c1 H where
  base:=ab.base
  aV:=fun b T cs h=>ab.aV b T cs (eh _ _ h)
  tok:=fun t i h=>ab.tok t i (dj _ _ h)
  kE:=ab.kE
  jK:=ab.jK
  kS:=ab.kS
  lP:=ab.lP
  bN:=bb.trans ab.bN
  bf:=aF.trans ab.bf
theorem gP.Ai (h:aY P f (args.map (bi env)) c (lB v c1)) (eh: ∀b y,c1.H.aV b=some y→c.H.aV b=some y) (dj: ∀t y,c1.H.tok t=some y→c.H.tok t=some y) (bb:c1.bN=c.bN) (aF:c1.bf=c.bf) (ad:v.flat=true) (af: ∀s∈others,∃bJ cu cn,env.get s= .ptr bJ 0∧c.H.aV bJ=some (cu,cn)∧c1.H.aV bJ=some (cu,cn)∧ot cn=true):gP P (.fQ others f args) env c (fun bp cB=>bp=v∧cB=c1) Rp:=fun H0 s a7 H K iw he ab dz ia=>by
  refine .fQ (az:=args.map (aH.aC a7)) _ (fun j bq=> ?_) (fun cM=> ?_) (dD.rN _) (h H0 s _ H (nq he args) ab) (Bs (fun bF v1 zC c1 av b5 cA dh fC=>by obtain⟨aj,aq⟩:=cA; cases aj; exact dz bF _ zC c1 av b5 ⟨rfl,aq⟩ dh fC) (fun bF v1 zC c1 av b5 cA dh fC=>by obtain⟨aj,aq⟩:=cA; cases aj))
  ·obtain⟨bJ,cu,cn,aj,aq,bD,da⟩:=af j bq
   have il:=he j
   rw[aj]at il
   simp only[aI]at il
   obtain⟨y,g1,g2⟩:=il
   refine⟨y,g2,fun o av ⟨bF,eS,c2,b5,⟨cA,dh⟩,fC,lS⟩=> ?_⟩
   subst dh
   exact L0 he ab b5 bb aF lS j ⟨bJ,cu,cn,aj,aq,bD,da⟩ y g2
  ·exact⟨v,H,⟨s,.ret v,_,bl.dU.refl s,⟨rfl,rfl⟩,(I.j1 v ad v).2 rfl,ab.sub eh dj bb aF⟩,cM⟩
theorem gP.Uj (U:bi env x= .fn f cap) (ah:cT P f=true) (h:aY P f (args.map (bi env)++cap) c (lB v c1)) (eh: ∀b y,c1.H.aV b=some y→c.H.aV b=some y) (dj: ∀t y,c1.H.tok t=some y→c.H.tok t=some y) (bb:c1.bN=c.bN) (aF:c1.bf=c.bf) (ad:v.flat=true) (af: ∀s∈others,∃bJ cu cn,env.get s= .ptr bJ 0∧c.H.aV bJ=some (cu,cn)∧c1.H.aV bJ=some (cu,cn)∧ot cn=true):gP P (.kn others x args) env c (fun bp cB=>bp=v∧cB=c1) Rp:=fun H0 s a7 H K iw he ab dz ia=>by
  have jI:=dJ he U
  simp only[aI]at jI
  obtain⟨CL,g1,g2⟩:=jI
  refine .kn _ g1 ah (fun j bq=> ?_) (fun cM=> ?_) (dD.rN _) (h H0 s _ H ((nq he args).append g2) ab) (Bs (fun bF v1 zC c1 av b5 cA dh fC=>by obtain⟨aj,aq⟩:=cA; cases aj; exact dz bF _ zC c1 av b5 ⟨rfl,aq⟩ dh fC) (fun bF v1 zC c1 av b5 cA dh fC=>by obtain⟨aj,aq⟩:=cA; cases aj))
  ·obtain⟨bJ,cu,cn,aj,aq,bD,da⟩:=af j bq
   have il:=he j
   rw[aj]at il
   simp only[aI]at il
   obtain⟨y,g3,g4⟩:=il
   refine⟨y,g4,fun o av ⟨bF,eS,c2,b5,⟨cA,dh⟩,fC,lS⟩=> ?_⟩
   subst dh
   exact L0 he ab b5 bb aF lS j ⟨bJ,cu,cn,aj,aq,bD,da⟩ y g4
  ·exact⟨v,H,⟨s,.ret v,_,bl.dU.refl s,⟨rfl,rfl⟩,(I.j1 v ad v).2 rfl,ab.sub eh dj bb aF⟩,cM⟩
def mA (H:Nat→Option (TypeId×List I)) (env:Env) (cj:ey):List Nat→Prop
  |[]=>True
  |s::l=>(∃bJ cu cn,env.get s= .ptr bJ 0∧H bJ=some (cu,cn)∧fT cj bJ=some (cu,cn)∧ot cn=true)∧mA H env cj l
theorem mA.get {H:Nat→Option (TypeId×List I)}{env:Env}{cj:ey}: ∀ {l:List Nat},mA H env cj l→∀s∈l,∃bJ cu cn,env.get s= .ptr bJ 0∧H bJ=some (cu,cn)∧fT cj bJ=some (cu,cn)∧ot cn=true
  |x::l,h,s,an=>by
   rcases List.mem_cons.1 an with rfl|an
   ·exact h.1
   ·exact mA.get h.2 s an
theorem ay.gi {aN:List bj}{cF t0:Nat}{k:List e7}{Q:Out→aJ→Prop}{X:Type}{E:X→Env}{bN bf:Nat}{B:X→ey}{T:X→eA}{eT:X→Prop}{bc:X→Nat}{m0:Nat}(x:X) (aW:eT x) (he:pT env (E x)) (hb:jw c.H (B x)) (aF:jx c.H (T x)) (h1:bc x<m0) (bb:(aV2 cF bN&&(aV2 bN c.bN&&(aV2 t0 bf&&aV2 bf c.bf)))=true:=by rfl) (bw:(jp bN bf (E x)&&(eP bN bf (B x)&&eQ bN bf (T x)))=true:=by simp (disch:=omega) only[go_sem,simprocAttr,jp,bB.bP,bB.bk,bB.bc]<;>rfl):ay P aN cF t0 (.mm (xF E (fun x=>aJ.of bN bf (B x) (T x)) eT bc) m0::k) Q env c:=ay.lU x aW he hb aF bb bw h1
theorem D.Ce {d bN bf:Nat}(s:bl){fg jA:ey}{fr lx:eA}{n q:Nat}(h:aY P f dA (aJ.of n q fg fr) (c8 v fg fr)) (hk:ai P anns l ((d,v)::env) (aJ.of bN bf jA lx) K Rp)
    (hu:c.jR s fg fr=aJ.of bN bf jA lx:=by simp (disch:=omega) only[go_sem,simprocAttr]<;>with_reducible rfl)
    (ah:(s.b.length==n&&(s.t.length==q&&(nodupB s.b&&(nodupB s.t&&(s.b.all (fun x=>aW7 x c.bN)&&(s.t.all (fun x=>aW7 x c.bf)&&(dE n q dA&&(eP n q fg&&(eQ n q fr&&v.flat)))))))))=true:=by simp (disch:=omega) only[go_sem,simprocAttr]<;>rfl) (eh:mL c.H.aV s fg:=by repeat first|exact trivial|refine⟨rfl,?_⟩) (dj:mM c.H.tok s fr:=by repeat first|exact trivial|refine⟨rfl,?_⟩) (aL:args.map (bi env)=eO s dA:=by simp (disch:=omega) only[go_sem,simprocAttr]<;>rfl)
    (DM:jw c.H jA:=by repeat first|exact trivial|refine⟨rfl,?_⟩) (DP:jx c.H lx:=by repeat first|exact trivial|refine⟨rfl,?_⟩) (bb:c.bN=bN:=by rfl) (aF:c.bf=bf:=by rfl)
    (af:mA c.H.aV env jA others:=by repeat first|exact trivial|refine⟨⟨_,_,_,by simp (disch:=omega) only[go_sem,simprocAttr]<;>with_reducible rfl,rfl,rfl,by simp (disch:=omega) only[go_sem,simprocAttr]<;>rfl⟩,?_⟩):ai P anns (⟨some d,none,.fQ others f args⟩::l) env c K Rp:=by
  simp only[aT0,beq_iff_eq]at ah
  obtain⟨c1,c2,eV,gn,kL,lG,np,oD,l5,nn⟩:=ah
  have cM:aY P f (args.map (bi env)) c (lB v (aJ.of bN bf jA lx)):=by
    rw[aL,←hu]
    have:=aY.oH (c:=c) s h c1 c2 (by rw[eV,gn,kL,lG]; rfl) eh dj (by rw[np,oD,l5]; rfl) (by rw[oD,l5,sn _ nn]; rfl) rfl
    rwa [so _ nn]at this
  exact ai.pH rfl rfl (gP.Ai (others:=others) cM (fun b y h=>jw.get DM b y h) (fun t y h=>jx.get DP t y h) bb.symm aF.symm nn (mA.get af)) fun bp cB ⟨aj,aq⟩=>by rw[aj,aq]; exact hk
theorem D.qY {d bN bf:Nat}(s:bl){fg jA:ey}{fr lx:eA}{n q:Nat}(aO:cT P f=true) (h:aY P f dA (aJ.of n q fg fr) (c8 v fg fr)) (hk:ai P anns l ((d,v)::env) (aJ.of bN bf jA lx) K Rp)
    (hu:c.jR s fg fr=aJ.of bN bf jA lx:=by simp (disch:=omega) only[go_sem,simprocAttr]<;>with_reducible rfl)
    (U:bi env x= .fn f cap:=by simp (disch:=omega) only[go_sem,simprocAttr]<;>with_reducible rfl)
    (ah:(s.b.length==n&&(s.t.length==q&&(nodupB s.b&&(nodupB s.t&&(s.b.all (fun x=>aW7 x c.bN)&&(s.t.all (fun x=>aW7 x c.bf)&&(dE n q dA&&(eP n q fg&&(eQ n q fr&&v.flat)))))))))=true:=by simp (disch:=omega) only[go_sem,simprocAttr]<;>rfl) (eh:mL c.H.aV s fg:=by repeat first|exact trivial|refine⟨rfl,?_⟩) (dj:mM c.H.tok s fr:=by repeat first|exact trivial|refine⟨rfl,?_⟩) (aL:args.map (bi env)++cap=eO s dA:=by simp (disch:=omega) only[go_sem,simprocAttr]<;>rfl)
    (DM:jw c.H jA:=by repeat first|exact trivial|refine⟨rfl,?_⟩) (DP:jx c.H lx:=by repeat first|exact trivial|refine⟨rfl,?_⟩) (bb:c.bN=bN:=by rfl) (aF:c.bf=bf:=by rfl)
    (af:mA c.H.aV env jA others:=by repeat first|exact trivial|refine⟨⟨_,_,_,by simp (disch:=omega) only[go_sem,simprocAttr]<;>with_reducible rfl,rfl,rfl,by simp (disch:=omega) only[go_sem,simprocAttr]<;>rfl⟩,?_⟩):ai P anns (⟨some d,none,.kn others x args⟩::l) env c K Rp:=by
  simp only[aT0,beq_iff_eq]at ah
  obtain⟨c1,c2,eV,gn,kL,lG,np,oD,l5,nn⟩:=ah
  have cM:aY P f (args.map (bi env)++cap) c (lB v (aJ.of bN bf jA lx)):=by
    rw[aL,←hu]
    have:=aY.oH (c:=c) s h c1 c2 (by rw[eV,gn,kL,lG]; rfl) eh dj (by rw[np,oD,l5]; rfl) (by rw[oD,l5,sn _ nn]; rfl) rfl
    rwa [so _ nn]at this
  exact ai.pH rfl rfl (gP.Uj (others:=others) U aO cM (fun b y h=>jw.get DM b y h) (fun t y h=>jx.get DP t y h) bb.symm aF.symm nn (mA.get af)) fun bp cB ⟨aj,aq⟩=>by rw[aj,aq]; exact hk
theorem aY.dead {Q:Out→aJ→Prop}(j T:Nat) (bq:c.H.tok j=some (.bP T 0 0)):aY P f az c Q:=fun H0 s ha H aL ab=>by
  intro m ak hH aZ
  obtain⟨x,c3,h1,J,_,bz,_⟩:=ab.tok j _ bq
  subst hH
  exact absurd bz (aZ.tok x c3 J).2.1
theorem D.Ca {d bN bf:Nat}{cj:ey}{cv:eA}(iG:I) (j T:Nat) (hk:ai P anns l ((d,iG)::env) (aJ.of bN bf cj cv) K Rp) (bq:(aJ.of bN bf cj cv).H.tok j=some (.bP T 0 0):=by rfl) (Ee:iG.flat=true:=by rfl)
    (af:mA (fT cj) env cj others:=by repeat first|exact trivial|refine⟨⟨_,_,_,by simp (disch:=omega) only[go_sem,simprocAttr]<;>with_reducible rfl,rfl,rfl,by simp (disch:=omega) only[go_sem,simprocAttr]<;>rfl⟩,?_⟩):ai P anns (⟨some d,none,.fQ others f args⟩::l) env (aJ.of bN bf cj cv) K Rp:=
  ai.pH rfl rfl (gP.Ai (others:=others) (c:=aJ.of bN bf cj cv) (c1:=aJ.of bN bf cj cv) (v:=iG) (aY.dead j T bq) (fun _ _ h=>h) (fun _ _ h=>h) rfl rfl Ee (mA.get af)) fun bp cB ⟨aj,aq⟩=>by rw[aj,aq]; exact hk
end
end Go.aX
namespace Go.aX.T.N
open Go Go.aX Go.Proofs
set_option maxRecDepth 1000000
abbrev aG (d:Nat) (o:ba):bC:=⟨some d,none,o⟩
abbrev cx (d j:Nat) (b:Bool) (o:ba):bC:=⟨some d,some (j,b),o⟩
abbrev vb (o:ba):bC:=⟨none,none,o⟩
abbrev db:aH:= .c (.bool false)
abbrev dG:aH:= .c (.bool true)
abbrev aB (n:Int):aH:= .c (.int .i64 n)
abbrev cH (s:List UInt8):aH:= .c (.str s)
abbrev aa (d s:Nat):bC:=⟨some d,none,.fO (.t s)⟩
abbrev cq (d:Nat):bC:=⟨some d,none,.fO (.c (.bool false))⟩
abbrev ol (d:Nat):bC:=⟨some d,none,.fO (.c (.bool true))⟩
abbrev bE (d:Nat) (x:aH):bC:=⟨some d,none,.fO x⟩
abbrev aR (d a:Nat):bC:=⟨some d,none,.load false 1 (.t a)⟩
abbrev cg (d n a:Nat):bC:=⟨some d,none,.load true n (.t a)⟩
abbrev aP (d k a:Nat):bC:=⟨some d,none,.nA k (.t a)⟩
abbrev aT (d:Nat) (o:BinOp) (x y:aH):bC:=⟨some d,none,.bin o x y⟩
abbrev bR (d f:Nat) (l:List aH):bC:=⟨some d,none,.call f l⟩
abbrev jk (d f:Nat) (l:List aH):bC:=⟨some d,none,.io f l⟩
abbrev bX (d:Nat) (x y z:aH):bC:=⟨some d,none,.pick x y z⟩
abbrev gD (d s:Nat):bC:=⟨some d,none,.not (.t s)⟩
abbrev c4 (d s:Nat):bC:=⟨some d,none,.len (.t s)⟩
abbrev cX (d n:Nat) (x y:aH):bC:=⟨some d,none,.gS n x y⟩
abbrev dX (d j:Nat) (b:Bool) (s:Nat):bC:=⟨some d,some (j,b),.fO (.t s)⟩
abbrev bW (d j:Nat) (b:Bool) (a:Nat):bC:=⟨some d,some (j,b),.load false 1 (.t a)⟩
abbrev bO (d j:Nat) (b:Bool) (k a:Nat):bC:=⟨some d,some (j,b),.nA k (.t a)⟩
abbrev cO (d j:Nat) (b:Bool) (o:BinOp) (x y:aH):bC:=⟨some d,some (j,b),.bin o x y⟩
abbrev eW (d j:Nat) (b:Bool) (f:Nat) (l:List aH):bC:=⟨some d,some (j,b),.call f l⟩
abbrev dm (n a:Nat) (x:aH):bC:=⟨none,none,.store n (.t a) x⟩
abbrev aO5 (x:aH):bC:=⟨none,none,.fB x⟩
abbrev ar (l:List bC) (k:bu):bu:= .seq (.region l false) k
abbrev bo (l:List bC):bu:= .seq (.region l false) .ret
abbrev a6 (a b:bu):bu:= .seq a b
abbrev cr (l:List bC):bu:= .region l false
abbrev bt (t:Nat) (a b:bu):bu:= .cond (.t t) a b
abbrev eY:aH:= .t 0
abbrev iI:aH:= .t 1
abbrev zy:aH:= .t 2
abbrev ft:aH:= .t 3
abbrev iL:aH:= .t 4
abbrev en:aH:= .t 5
abbrev eo:aH:= .t 6
abbrev dS:aH:= .t 7
abbrev dH:aH:= .t 8
abbrev fu:aH:= .t 9
abbrev gW:aH:= .t 10
abbrev dR:aH:= .t 11
abbrev eK:aH:= .t 12
abbrev eZ:aH:= .t 13
abbrev fP:aH:= .t 14
abbrev ew:aH:= .t 15
abbrev hP:aH:= .t 16
abbrev gM:aH:= .t 17
abbrev gX:aH:= .t 18
abbrev gl:aH:= .t 19
abbrev ie:aH:= .t 20
abbrev iJ:aH:= .t 21
abbrev hY:aH:= .t 22
abbrev gG:aH:= .t 23
abbrev gY:aH:= .t 24
abbrev hZ:aH:= .t 25
abbrev jn:aH:= .t 26
abbrev gN:aH:= .t 27
abbrev iK:aH:= .t 28
abbrev kc:aH:= .t 29
abbrev kd:aH:= .t 30
abbrev iX:aH:= .t 31
abbrev ke:aH:= .t 32
abbrev kf:aH:= .t 33
abbrev jP:aH:= .t 34
abbrev na:aH:= .t 35
abbrev js:aH:= .t 36
abbrev lV:aH:= .t 37
abbrev mq:aH:= .t 38
abbrev nb:aH:= .t 39
abbrev mr:aH:= .t 40
abbrev ms:aH:= .t 41
abbrev nP:aH:= .t 42
abbrev mu:aH:= .t 43
abbrev k8:aH:= .t 44
abbrev nc:aH:= .t 45
abbrev mv:aH:= .t 46
abbrev rQ:aH:= .t 47
abbrev rR:aH:= .t 48
abbrev pO:aH:= .t 49
abbrev jQ:aH:= .t 50
abbrev lW:aH:= .t 51
abbrev nd:aH:= .t 52
abbrev rS:aH:= .t 53
abbrev mw:aH:= .t 54
abbrev ou:aH:= .t 55
abbrev ly:aH:= .t 56
abbrev pP:aH:= .t 57
abbrev mx:aH:= .t 58
abbrev qM:aH:= .t 59
abbrev rT:aH:= .t 60
abbrev o5:aH:= .t 61
abbrev rU:aH:= .t 62
abbrev qN:aH:= .t 63
abbrev qO:aH:= .t 64
abbrev vF:aH:= .t 65
abbrev o6:aH:= .t 66
abbrev qP:aH:= .t 67
abbrev vG:aH:= .t 68
abbrev rV:aH:= .t 69
abbrev qQ:aH:= .t 70
abbrev qR:aH:= .t 71
abbrev vH:aH:= .t 72
abbrev xo:aH:= .t 73
abbrev xp:aH:= .t 74
abbrev xq:aH:= .t 75
abbrev vI:aH:= .t 76
abbrev vJ:aH:= .t 77
abbrev FX:aH:= .t 78
abbrev BY:aH:= .t 79
abbrev zz:aH:= .t 80
abbrev zA:aH:= .t 81
abbrev BZ:aH:= .t 82
abbrev xr:aH:= .t 83
abbrev xt:aH:= .t 84
abbrev QM:aH:= .t 85
abbrev zB:aH:= .t 86
abbrev QN:aH:= .t 87
abbrev FY:aH:= .t 88
abbrev B0:aH:= .t 89
abbrev QO:aH:= .t 90
abbrev FZ:aH:= .t 91
abbrev F0:aH:= .t 92
abbrev B1:aH:= .t 93
abbrev F1:aH:= .t 94
abbrev F2:aH:= .t 95
abbrev aS4:aH:= .t 96
abbrev QP:aH:= .t 97
abbrev QQ:aH:= .t 98
abbrev aC2:aH:= .t 99
abbrev QE:aH:= .t 100
abbrev QF:aH:= .t 101
abbrev FW:aH:= .t 102
abbrev ay8:aH:= .t 103
abbrev ay9:aH:= .t 104
abbrev QG:aH:= .t 105
abbrev az0:aH:= .t 106
abbrev az1:aH:= .t 107
abbrev aP2:aH:= .t 108
abbrev az2:aH:= .t 109
abbrev az3:aH:= .t 110
abbrev az4:aH:= .t 111
abbrev QH:aH:= .t 112
abbrev QI:aH:= .t 113
abbrev aP3:aH:= .t 114
abbrev QJ:aH:= .t 115
abbrev az5:aH:= .t 116
abbrev QK:aH:= .t 117
abbrev aP4:aH:= .t 118
abbrev aP5:aH:= .t 119
abbrev az6:aH:= .t 120
abbrev az7:aH:= .t 121
abbrev az8:aH:= .t 122
abbrev az9:aH:= .t 123
abbrev aP6:aH:= .t 124
abbrev aA0:aH:= .t 125
abbrev aP7:aH:= .t 126
abbrev aP8:aH:= .t 127
abbrev aA1:aH:= .t 128
abbrev aA2:aH:= .t 129
abbrev aA3:aH:= .t 130
abbrev aP9:aH:= .t 131
abbrev aA4:aH:= .t 132
abbrev aA5:aH:= .t 133
abbrev aA6:aH:= .t 134
abbrev aQ0:aH:= .t 135
abbrev aA7:aH:= .t 136
abbrev aA8:aH:= .t 137
abbrev aA9:aH:= .t 138
abbrev aQ1:aH:= .t 139
abbrev aB0:aH:= .t 140
abbrev aB1:aH:= .t 141
abbrev aB2:aH:= .t 142
abbrev aQ2:aH:= .t 143
abbrev QL:aH:= .t 144
abbrev aB3:aH:= .t 145
abbrev aB4:aH:= .t 146
abbrev aQ3:aH:= .t 147
abbrev aQ4:aH:= .t 148
abbrev aQ5:aH:= .t 149
abbrev aB5:aH:= .t 150
abbrev aQ6:aH:= .t 151
abbrev aB6:aH:= .t 152
abbrev aB7:aH:= .t 153
abbrev aB8:aH:= .t 154
abbrev aB9:aH:= .t 155
abbrev aC0:aH:= .t 156
abbrev aC1:aH:= .t 157
abbrev aQ7:aH:= .t 158
abbrev aQ8:aH:= .t 159
abbrev aQ9:aH:= .t 160
abbrev aR0:aH:= .t 161
abbrev aR1:aH:= .t 162
abbrev aR2:aH:= .t 163
abbrev aR3:aH:= .t 164
abbrev aR4:aH:= .t 165
abbrev aR5:aH:= .t 166
abbrev aR6:aH:= .t 167
abbrev aR7:aH:= .t 168
abbrev aR8:aH:= .t 169
abbrev aR9:aH:= .t 170
abbrev aS0:aH:= .t 171
abbrev aS1:aH:= .t 172
abbrev aS2:aH:= .t 173
abbrev aS3:aH:= .t 174
def uE:bu:=
 ar [aG 1 (.box 26 eY),aG 2 (.alloc 48 [.str [],.str [],.str [],.bn,.bn,.bn])] (ar [aP 9 0 1,aR 10 9,aP 11 1 1,aR 12 11,aP 13 2 1,aR 14 13,aG 15 (.build [.str [],.str [],.str [],.bn,.bn,.bn] [(0,1,gW),(1,1,eK),(2,1,fP)]),aG 3 (.alloc 48 [.str [],.str [],.str [],.bn,.bn,.bn]),dm 6 3 ew] (a6 (ar [bE 4 (aB 0)] (.block 0 (.loop (a6 (ar [aa 16 4,aP 17 3 1,aR 18 17,c4 19 18,aT 20 .lss hP gl] (bt 20 .skip (.exit 0))) (a6 (.block 1 (.region [aP 23 3 3,aR 24 23,aP 25 3 1,aR 26 25,aa 27 4,cX 28 7 jn gN,cg 29 7 28,aG 30 (.eu 146 7 1 [.str [],.int .i64 0,.int .i64 0,.int .i64 0,.int .i64 0,.int .i64 0,.str []] [(0,kc)]),aG 31 (.append 146 7 72 gY kd),aP 32 3 3,dm 1 32 iX] true)) (cr [aa 21 4,aT 22 .add iJ (aB 1),aa 4 22])))))) (a6 (ar [bE 5 (aB 0)] (.block 2 (.loop (a6 (ar [aa 33 5,aP 34 4 1,aR 35 34,c4 36 35,aT 37 .lss kf js] (bt 37 .skip (.exit 2))) (a6 (.block 3 (ar [aP 40 4 1,aR 41 40,aa 42 5,cX 43 4 ms nP,cg 44 4 43,aG 6 (.alloc 113 [.str [],.str [],.bn,.bn]),dm 4 6 k8] (.region [aP 45 4 3,aR 46 45,aP 47 0 6,aR 48 47,aP 49 1 6,aR 50 49,aP 51 2 6,aR 52 51,aP 53 3 6,aR 54 53,jk 55 64 [mw],aG 56 (.build [.str [],.str [],.bn,.bn] [(0,1,rR),(1,1,jQ),(2,1,nd),(3,1,ou)]),aG 57 (.eu 84 4 1 [.str [],.str [],.bn,.bn] [(0,ly)]),aG 58 (.append 84 4 80 mv pP),aP 59 4 3,dm 1 59 mx] true))) (cr [aa 38 5,aT 39 .add mq (aB 1),aa 5 39])))))) (a6 (ar [bE 7 (aB 0)] (.block 4 (.loop (a6 (ar [aa 60 7,aP 61 5 1,aR 62 61,c4 63 62,aT 64 .lss rT qN] (bt 64 .skip (.exit 4))) (a6 (.block 5 (ar [aP 67 5 1,aR 68 67,aa 69 7,cX 70 4 vG rV,cg 71 4 70,aG 8 (.alloc 116 [.str [],.str [],.bn,.bn]),dm 4 8 qR] (.region [aP 72 5 3,aR 73 72,aP 74 0 8,aR 75 74,aP 76 1 8,aR 77 76,aP 78 2 8,aR 79 78,jk 80 65 [BY],aP 81 3 8,aR 82 81,jk 83 65 [BZ],aG 84 (.build [.str [],.str [],.bn,.bn] [(0,1,xq),(1,1,vJ),(2,1,zz),(3,1,xr)]),aG 85 (.eu 148 4 1 [.str [],.str [],.bn,.bn] [(0,xt)]),aG 86 (.append 148 4 80 xo QM),aP 87 5 3,dm 1 87 zB] true))) (cr [aa 65 7,aT 66 .add vF (aB 1),aa 7 66])))))) (bo [cg 88 6 3,dm 6 2 FY])))))
def ON:List bj:=[.cell true 6 2]
theorem S6:b4 aS9 Tryz.f21 1 uE ON=true:=by kernel_rfl
def J4:bu:=
 ar [aG 1 (.box 48 eY),cq 2] (a6 (ar [aP 3 0 1,aR 4 3,bR 5 109 [iL],gD 6 5,aa 7 6,bO 8 7 false 1 1,bW 9 7 false 8,eW 10 7 false 109 [fu],cx 11 7 false (.not gW),bX 12 dS dG dR,aa 13 12,bO 14 13 false 2 1,bW 15 13 false 14,eW 16 13 false 109 [ew],cx 17 13 false (.not hP),bX 18 eZ dG gM,aa 19 18,bO 20 19 false 3 1,bW 21 19 false 20,cx 22 19 false (.len iJ),cO 23 19 false .gtr hY (aB 12),bX 24 gl dG gG,aa 25 24,bO 26 25 false 4 1,bW 27 25 false 26,cx 28 25 false (.len gN),cO 29 25 false .gtr iK (aB 40),bX 30 hZ dG kc,aa 31 30,bO 32 31 false 5 1,bW 33 31 false 32,cx 34 31 false (.len kf),cO 35 31 false .gtr jP (aB 40),bX 36 iX dG na] (bt 36 (bo [cq 2]) .skip)) (bo [aP 37 3 1,aR 38 37,bR 39 110 [mq,.c (.fn 111 [])],aa 40 39,bO 41 40 true 4 1,bW 42 40 true 41,eW 43 40 true 112 [nP,.c (.fn 113 [])],bX 44 mr mu db,aa 45 44,bO 46 45 true 5 1,bW 47 45 true 46,eW 48 45 true 114 [rQ,.c (.fn 115 [])],bX 49 nc rR db,aa 50 49,cx 51 50 true (.load true 6 iI),eW 52 50 true 116 [lW],cx 53 50 true (.kV nd),cO 54 50 true .leq rS (aB 8000),bX 55 jQ mw db,aa 2 55]))
def PL:List bj:=[.t 2]
theorem T5:b4 aS9 Tryz.f40 1 J4 PL=true:=by kernel_rfl
def J6:bu:=
 ar [aG 1 (.box 26 eY),cq 2] (ar [bE 3 (aB 0)] (a6 (ar [bE 4 (aB 0)] (.block 0 (.loop (a6 (ar [aa 6 4,aP 7 4 1,aR 8 7,c4 9 8,aT 10 .lss eo fu] (bt 10 .skip (.exit 0))) (a6 (.block 1 (a6 (ar [aP 13 4 1,aR 14 13,aa 15 4,cX 16 4 fP ew,aP 17 2 16,aR 18 17,c4 19 18,aT 20 .gtr gl (aB 60)] (bt 20 (bo [cq 2]) .skip)) (cr [aa 21 3,aP 22 4 1,aR 23 22,aa 24 4,cX 25 4 gG gY,aP 26 3 25,aR 27 26,bR 28 118 [gN],aT 29 .add iJ iK,aa 3 29]))) (cr [aa 11 4,aT 12 .add dR (aB 1),aa 4 12])))))) (a6 (ar [bE 5 (aB 0)] (.block 2 (.loop (a6 (ar [aa 30 5,aP 31 5 1,aR 32 31,c4 33 32,aT 34 .lss kd kf] (bt 34 .skip (.exit 2))) (a6 (.block 3 (.region [aa 37 3,aP 38 5 1,aR 39 38,aa 40 5,cX 41 4 nb mr,aP 42 2 41,aR 43 42,jk 44 119 [mu],aP 45 5 1,aR 46 45,aa 47 5,cX 48 4 mv rQ,aP 49 3 48,aR 50 49,jk 51 119 [jQ],aT 52 .add k8 lW,aT 53 .add lV nd,aa 3 53] true)) (cr [aa 35 5,aT 36 .add na (aB 1),aa 5 36])))))) (bo [aa 54 3,aT 55 .leq mw (aB 500),aa 56 55,bO 57 56 true 3 1,bW 58 56 true 57,cx 59 56 true (.len mx),cO 60 56 true .leq qM (aB 60),bX 61 ly rT db,aa 62 61,bO 63 62 true 4 1,bW 64 62 true 63,cx 65 62 true (.len qO),cO 66 62 true .leq vF (aB 60),bX 67 rU o6 db,aa 68 67,bO 69 68 true 5 1,bW 70 68 true 69,cx 71 68 true (.len qQ),cO 72 68 true .leq qR (aB 60),bX 73 vG vH db,aa 2 73]))))
def PM:List bj:=[.t 2]
theorem T7:b4 aS9 Tryz.f44 1 J6 PM=true:=by kernel_rfl
def J8:bu:=
 ar [bE 2 (.c .bn)] (ar [bE 3 (.c .bn)] (a6 (ar [bE 4 (aB 0)] (.block 0 (.loop (a6 (ar [aa 6 4,aa 7 0,c4 8 7,aT 9 .lss eo dH] (bt 9 .skip (.exit 0))) (a6 (.block 1 (ar [aa 12 0,aa 13 4,cX 14 11 eK eZ,cg 15 11 14,aG 5 (.alloc 178 [.int .i64 0,.str [],.int .i64 0,.str [],.str [],.str [],.int .i64 0,.bn,.int .i64 0,.bn,.bn]),dm 11 5 ew] (.region [aa 16 3,aP 17 0 5,aR 18 17,aP 19 1 5,aR 20 19,aP 21 2 5,cg 22 6 21,aG 23 (.eu 120 6 1 [.int .i64 0,.str [],.str [],.str [],.int .i64 0,.bn] [(0,hY)]),jk 24 65 [gG],cX 25 6 gY (aB 0),cg 26 6 25,aP 27 8 5,aR 28 27,aP 29 9 5,aR 30 29,jk 31 64 [kd],aP 32 10 5,aR 33 32,jk 34 64 [kf],aG 35 (.build [.int .i64 0,.str [],.int .i64 0,.str [],.str [],.str [],.int .i64 0,.bn,.int .i64 0,.bn,.bn] [(0,1,gX),(1,1,ie),(2,6,jn),(8,1,iK),(9,1,iX),(10,1,jP)]),aG 36 (.eu 82 11 1 [.int .i64 0,.str [],.int .i64 0,.str [],.str [],.str [],.int .i64 0,.bn,.int .i64 0,.bn,.bn] [(0,na)]),aG 37 (.append 82 11 168 hP js),aa 3 37] true))) (cr [aa 10 4,aT 11 .add gW (aB 1),aa 4 11])))))) (bo [aa 38 3,aa 2 38])))
def PO:List bj:=[.t 2]
theorem Ua:b4 aS9 Tryz.f64 1 J8 PO=true:=by kernel_rfl
def J9:bu:=
 ar [bE 2 (.c .bn)] (ar [bE 3 (.c .bn)] (a6 (ar [bE 4 (aB 0)] (.block 0 (.loop (a6 (ar [aa 6 4,aa 7 0,c4 8 7,aT 9 .lss eo dH] (bt 9 .skip (.exit 0))) (a6 (.block 1 (ar [aa 12 0,aa 13 4,cX 14 6 eK eZ,cg 15 6 14,aG 5 (.alloc 120 [.int .i64 0,.str [],.str [],.str [],.int .i64 0,.bn]),dm 6 5 ew] (.region [aa 16 3,aP 17 0 5,aR 18 17,aP 19 1 5,aR 20 19,aP 21 2 5,aR 22 21,aP 23 3 5,aR 24 23,aP 25 4 5,aR 26 25,aP 27 5 5,aR 28 27,jk 29 65 [iK],aG 30 (.build [.int .i64 0,.str [],.str [],.str [],.int .i64 0,.bn] [(0,1,gX),(1,1,ie),(2,1,hY),(3,1,gY),(4,1,jn),(5,1,kc)]),aG 31 (.eu 80 6 1 [.int .i64 0,.str [],.str [],.str [],.int .i64 0,.bn] [(0,kd)]),aG 32 (.append 80 6 88 hP iX),aa 3 32] true))) (cr [aa 10 4,aT 11 .add gW (aB 1),aa 4 11])))))) (bo [aa 33 3,aa 2 33])))
def PP:List bj:=[.t 2]
theorem Ub:b4 aS9 Tryz.f65 1 J9 PP=true:=by kernel_rfl
def Dm:bu:=
 ar [cq 2] (a6 (ar [aa 4 0,aT 5 .eql iL (cH []),aa 6 5,dX 7 6 false 0,cx 8 6 false (.kV dS),cO 9 6 false .gtr dH (aB 16),bX 10 eo dG fu,aa 11 10,dX 12 11 false 0,cx 13 11 false (.gp eK (aB 0)),eW 14 11 false 145 [eZ],cx 15 11 false (.not fP),bX 16 dR dG ew] (bt 16 (bo [cq 2]) .skip)) (a6 (ar [aa 17 0,aG 18 (.kV gM),bE 19 (aB 0)] (.block 0 (.loop (ar [aT 20 .lss gl gX] (a6 (bt 20 .skip (.exit 0)) (a6 (.block 1 (ar [aa 21 19,aa 3 21] (ar [aa 22 0,aa 23 3,aG 24 (.gp hY gG),bR 25 146 [gY],gD 26 25] (bt 26 (bo [cq 2]) .skip)))) (cr [aT 27 .add gl (aB 1),aa 19 27]))))))) (bo [ol 2])))
def Fo:List bj:=[.t 2]
theorem Hw:b4 aS9 Tryz.f76 1 Dm Fo=true:=by kernel_rfl
def Kc:bu:=
 ar [bE 4 (aB 0)] (a6 (ar [aa 6 0,c4 7 6,bE 8 (aB 0)] (.block 0 (.loop (ar [aT 9 .lss dH dS] (a6 (bt 9 .skip (.exit 0)) (a6 (.block 1 (ar [aa 10 8,aa 5 10] (ar [aa 11 1,aa 12 0,aa 13 5,cX 14 1 eK eZ,aR 15 14,aT 16 .eql dR ew] (bt 16 (bo [aa 17 5,aa 4 17]) .skip)))) (cr [aT 18 .add dH (aB 1),aa 8 18]))))))) (bo [bE 4 (aB (-1))]))
def PU:List bj:=[.t 4]
theorem Ug:b4 aS9 Tryz.f93 2 Kc PU=true:=by kernel_rfl
def tl:bu:=
 ar [cq 4] (bo [aa 5 0,aa 6 1,bR 7 183 [en,eo],aT 8 .geq dS (aB 0),aa 4 8])
def BI:List bj:=[.t 4]
theorem CI:b4 aS9 Tryz.f96 2 tl BI=true:=by kernel_rfl
def Ix:bu:=
 (.seq
 (.region [aG 2 (.fO (.c (.bool false)))] false)
 (.seq
 (.region [aG 4 (.build [.str [],.str [],.str [],.str [],.str [],.str [],.str [],.str [],.str [],.str [],.str [],.str [],.str [],.str [],.str [],.str [],.str [],.str [],.str [],.str [],.str [],.str [],.str [],.str [],.str [],.str [],.str [],.str []] [(0,1,(.c (.str [97,103,97,105,110]))),(1,1,(.c (.str [97,110,100]))),(2,1,(.c (.str [97,115]))),(3,1,(.c (.str [97,116]))),(4,1,(.c (.str [99,97,108,108]))),(5,1,(.c (.str [99,104,111,105,99,101]))),(6,1,(.c (.str [101,108,115,101]))),(7,1,(.c (.str [102,114,111,109]))),(8,1,(.c (.str [105,102]))),(9,1,(.c (.str [105,110,116]))),(10,1,(.c (.str [108,101,110]))),(11,1,(.c (.str [108,111,111,112]))),(12,1,(.c (.str [109,101,115,115,97,103,101]))),(13,1,(.c (.str [111,102]))),(14,1,(.c (.str [111,102,102,101,114]))),(15,1,(.c (.str [111,110]))),(16,1,(.c (.str [111,114]))),(17,1,(.c (.str [112,97,114]))),(18,1,(.c (.str [112,108,97,121,115]))),(19,1,(.c (.str [112,114,111,116,111,99,111,108]))),(20,1,(.c (.str [115,101,114,118,105,99,101]))),(21,1,(.c (.str [116,101,120,116]))),(22,1,(.c (.str [116,105,109,101,115]))),(23,1,(.c (.str [116,111]))),(24,1,(.c (.str [118,97,114]))),(25,1,(.c (.str [119,104,101,114,101]))),(26,1,(.c (.str [119,104,105,108,101]))),(27,1,(.c (.str [119,105,116,104,105,110])))]),aG 3 (.alloc 291 [.str [],.str [],.str [],.str [],.str [],.str [],.str [],.str [],.str [],.str [],.str [],.str [],.str [],.str [],.str [],.str [],.str [],.str [],.str [],.str [],.str [],.str [],.str [],.str [],.str [],.str [],.str [],.str []]),vb (.store 28 (.t 3) (.t 4))] false)
 (.seq
 (.region [aG 5 (.fO (.t 0)),aG 6 (.call 76 [(.t 5)]),aG 7 (.fO (.t 6)),cx 8 7 true (.xj 28 1 (.t 3)),cx 9 7 true (.fO (.t 0)),cx 10 7 true (.call 198 [(.t 8),(.t 9)]),cx 11 7 true (.not (.t 10)),aG 12 (.pick (.t 7) (.t 11) (.c (.bool false))),aG 2 (.fO (.t 12))] false)
 .ret)))
def N5:List bj:=[.t 2]
theorem Sp:b4 aS9 Tryz.f109 1 Ix N5=true:=by kernel_rfl
def Iy:bu:=
 ar [aG 3 (.box 211 iI),cq 4] (bo [aa 5 0,aG 6 (.iS 199 [ft]),bR 7 162 [en,eo],gD 8 7,aa 4 8])
def N6:List bj:=[.t 4]
theorem Sr:b4 aS9 Tryz.f110 2 Iy N6=true:=by kernel_rfl
def Iz:bu:=
 ar [aG 1 (.box 146 eY),cq 2] (ar [aP 4 1 1,cg 5 3 4,aG 3 (.alloc 87 [.int .i64 0,.int .i64 0,.int .i64 0]),dm 3 3 en] (a6 (.block 0 (ar [aP 7 0 1,aR 8 7,bR 9 109 [dH],gD 10 9,aa 11 10,bO 12 11 false 1 3,bW 13 11 false 12,eW 14 11 false 200 [eZ],cx 15 11 false (.not fP),bX 16 dR dG ew,aa 17 16,bO 18 17 false 2 3,bW 19 17 false 18,eW 20 17 false 200 [gl],cx 21 17 false (.not ie),bX 22 gM dG iJ,aa 6 22] (bt 6 (bo [cq 2]) (ar [aP 24 0 3,aR 25 24,aT 26 .neq hZ (aB 1),aa 27 26,bO 28 27 true 0 3,bW 29 27 true 28,cO 30 27 true .neq kc (aB 2),dX 31 27 true 30,bO 32 31 false 1 3,bW 33 31 false 32,cO 34 31 false .lss kf (aB 0),cx 35 27 true (.pick iX dG jP),dX 36 27 true 35,bO 37 36 false 2 3,bW 38 36 false 37,cO 39 36 false .lss mq (aB 0),cx 40 27 true (.pick js dG nb),bX 41 gN mr db,aa 23 41] (bt 23 (bo [cq 2]) .skip))))) (a6 (ar [aP 42 4 1,aP 43 0 42,aR 44 43] (.block 1 (ar [aT 46 .eql k8 (aB 1),aa 45 46] (bt 45 (bo [aP 47 4 1,aP 48 1 47,aR 49 48,bR 50 200 [pO],aa 51 50,bO 52 51 true 4 1,bO 53 51 true 2 52,bW 54 51 true 53,cO 55 51 true .eql mw (cH []),bX 56 lW ou db,aa 2 56]) (ar [aT 58 .eql k8 (aB 2),aa 57 58] (bt 57 (bo [aP 59 4 1,aP 60 1 59,aR 61 60,aT 62 .eql o5 (aB 0),aa 63 62,bO 64 63 true 4 1,bO 65 63 true 2 64,bW 66 63 true 65,eW 67 63 true 201 [o6],bX 68 qN qP db,aa 2 68]) .skip)))))) (bo [cq 2]))))
def N7:List bj:=[.t 2]
theorem Ss:b4 aS9 Tryz.f111 1 Iz N7=true:=by kernel_rfl
def IA:bu:=
 ar [aG 3 (.box 198 iI),cq 4] (bo [aa 5 0,aG 6 (.iS 202 [ft]),bR 7 96 [en,eo],gD 8 7,aa 4 8])
def N8:List bj:=[.t 4]
theorem St:b4 aS9 Tryz.f112 2 IA N8=true:=by kernel_rfl
def IB:bu:=
 ar [aG 1 (.box 84 eY),cq 2] (ar [bE 3 (.c (.fn 203 []))] (bo [aP 4 0 1,aR 5 4,bR 6 205 [en],aa 7 6,bO 8 7 true 1 1,bW 9 7 true 8,eW 10 7 true 109 [fu],bX 11 dS gW db,aa 12 11,bO 13 12 true 2 1,bW 14 12 true 13,cx 15 12 true (.len fP),cO 16 12 true .leq ew (aB 4),bX 17 eK hP db,aa 18 17,bO 19 18 true 2 1,bW 20 18 true 19,eW 21 18 true 206 [ie,.c (.fn 109 [])],bX 22 gX iJ db,aa 23 22,bO 24 23 true 3 1,bW 25 23 true 24,eW 26 23 true 207 [hZ,.c (.fn 208 [])],bX 27 gG jn db,aa 28 27,bO 29 28 true 3 1,bW 30 28 true 29,dX 31 28 true 3,eW 32 28 true 207 [kd,iX],bX 33 iK ke db,aa 2 33]))
def N9:List bj:=[.t 2]
theorem Su:b4 aS9 Tryz.f113 1 IB N9=true:=by kernel_rfl
def IC:bu:=
 ar [aG 3 (.box 213 iI),cq 4] (bo [aa 5 0,aG 6 (.iS 210 [ft]),bR 7 209 [en,eo],gD 8 7,aa 4 8])
def Oa:List bj:=[.t 4]
theorem Sv:b4 aS9 Tryz.f114 2 IC Oa=true:=by kernel_rfl
def ID:bu:=
 ar [aG 1 (.box 148 eY),cq 2] (ar [bE 3 (.c (.fn 211 []))] (ar [aP 5 2 1,aR 6 5,aP 7 3 1,aR 8 7,aG 9 (.eu 78 1 2 [.bn] [(0,eo),(1,dH)]),bR 10 213 [fu],aa 4 10] (bo [aP 11 0 1,aR 12 11,bR 13 205 [eK],aa 14 13,bO 15 14 true 1 1,bW 16 14 true 15,eW 17 14 true 109 [hP],bX 18 fP gM db,aa 19 18,bO 20 19 true 2 1,bW 21 19 true 20,cx 22 19 true (.len iJ),cO 23 19 true .leq hY (aB 4),bX 24 gl gG db,aa 25 24,bO 26 25 true 3 1,bW 27 25 true 26,cx 28 25 true (.len gN),cO 29 25 true .leq iK (aB 1),bX 30 hZ kc db,aa 31 30,dX 32 31 true 4,eW 33 31 true 214 [ke,.c (.fn 215 [])],bX 34 iX kf db,aa 35 34,dX 36 35 true 4,dX 37 35 true 3,eW 38 35 true 214 [js,lV],bX 39 na mq db,aa 2 39])))
def Ob:List bj:=[.t 2]
theorem Sw:b4 aS9 Tryz.f115 1 ID Ob=true:=by kernel_rfl
def IE:bu:=
 ar [aG 1 (.box 48 eY),bE 2 (cH [])] (ar [aG 12 (.build [.dI (.pointer none),.bn,.int .i64 0] []),aG 13 (.box 304 eK),aa 3 13] (ar [aa 14 3,aP 15 0 1,aR 16 15,aP 17 1 1,aR 18 17,aP 19 2 1,aR 20 19,aG 21 (.eu 9 1 7 [.str []] [(0,cH [115,101,114,118,105,99,101,32]),(1,hP),(2,cH [32,112,108,97,121,115,32]),(3,gX),(4,cH [32,111,102,32]),(5,ie),(6,cH [32,123])]),bR 22 216 [fP,iJ]] (ar [aa 23 3,aG 24 (.fB gG),aP 25 2 24,dm 1 25 (aB 1)] (a6 (ar [aP 26 3 1,aR 27 26,c4 28 27,bE 29 (aB 0)] (.block 0 (.loop (ar [aT 30 .lss kc iK] (a6 (bt 30 .skip (.exit 0)) (a6 (.block 1 (ar [cX 31 7 gN kc,cg 32 7 31,aG 5 (.alloc 146 [.str [],.int .i64 0,.int .i64 0,.int .i64 0,.int .i64 0,.int .i64 0,.str []]),dm 7 5 ke] (ar [bE 6 (cH [105,110,116,32])] (a6 (ar [aP 33 1 5,aP 34 0 33,aR 35 34,aT 36 .eql na (aB 2)] (bt 36 (cr [bE 6 (cH [116,101,120,116,32])]) .skip)) (.region [aa 37 3,aP 38 0 5,aR 39 38,aa 40 6,aP 41 1 5,aP 42 1 41,aR 43 42,jk 44 217 [mu],aP 45 1 5,aP 46 2 45,aR 47 46,jk 48 217 [rQ],aP 49 4 5,cg 50 3 49,jk 51 218 [jQ],aG 52 (.eu 9 1 10 [.str []] [(0,cH [118,97,114,32]),(1,nb),(2,cH [58,32]),(3,mr),(4,k8),(5,cH [32,46,46,32]),(6,rR),(7,cH [32,61,32]),(8,lW),(9,cH [59])]),bR 53 216 [lV,nd]] true))))) (cr [aT 54 .add kc (aB 1),aa 29 54]))))))) (a6 (ar [aP 55 4 1,aR 56 55,c4 57 56,bE 58 (aB 0)] (.block 2 (.loop (ar [aT 59 .lss mx pP] (a6 (bt 59 .skip (.exit 2)) (a6 (.block 3 (ar [cX 60 4 ly mx,cg 61 4 60,aG 8 (.alloc 84 [.str [],.str [],.bn,.bn]),dm 4 8 o5] (a6 (.region [aa 62 3,aP 63 0 8,aR 64 63,aP 65 2 8,aR 66 65,jk 67 219 [o6,cH [44,32]],aP 68 1 8,aR 69 68,aG 70 (.eu 9 1 7 [.str []] [(0,cH [111,110,32]),(1,qO),(2,cH [40]),(3,qP),(4,cH [41,32,102,114,111,109,32]),(5,rV),(6,cH [32,123])]),bR 71 216 [rU,qQ]] true) (ar [aa 72 3,aP 73 3 8,aR 74 73,bR 75 220 [vH,xp]] (cr [aa 76 3,aG 77 (.eu 9 1 1 [.str []] [(0,cH [125])]),bR 78 216 [vI,vJ]]))))) (cr [aT 79 .add mx (aB 1),aa 58 79]))))))) (a6 (ar [aP 80 5 1,aR 81 80,c4 82 81,bE 83 (aB 0)] (.block 4 (.loop (ar [aT 84 .lss xr BZ] (a6 (bt 84 .skip (.exit 4)) (a6 (.block 5 (ar [cX 85 4 zA xr,cg 86 4 85,aG 10 (.alloc 148 [.str [],.str [],.bn,.bn]),dm 4 10 zB] (ar [bE 11 (cH [])] (a6 (ar [aP 87 3 10,aR 88 87,c4 89 88,aT 90 .gtr B0 (aB 0)] (bt 90 (cr [aP 91 3 10,aR 92 91,cX 93 6 F0 (aB 0),cg 94 6 93,bR 95 221 [F1],aT 96 .add (cH [32,119,104,101,114,101,32]) F2,aa 11 96]) .skip)) (.region [aa 97 3,aP 98 0 10,aR 99 98,aP 100 2 10,aR 101 100,jk 102 222 [QF],aP 103 1 10,aR 104 103,aa 105 11,aG 106 (.eu 9 1 8 [.str []] [(0,cH [111,102,102,101,114,32]),(1,aC2),(2,cH [40]),(3,FW),(4,cH [41,32,116,111,32]),(5,ay9),(6,QG),(7,cH [59])]),bR 107 216 [QP,az0]] true))))) (cr [aT 108 .add xr (aB 1),aa 83 108]))))))) (ar [aa 109 3,aG 110 (.fB az2),aP 111 2 110,dm 1 111 (aB 0)] (ar [aa 112 3,aG 113 (.eu 9 1 1 [.str []] [(0,cH [125])]),bR 114 216 [QH,QI]] (bo [aa 115 3,aG 116 (.fB QJ),aP 117 0 116,bR 118 223 [QK],aa 2 118])))))))))
def Oc:List bj:=[.t 2]
theorem Sx:b4 aS9 Tryz.f116 1 IE Oc=true:=by kernel_rfl
def IF:bu:=
 ar [bE 2 (aB 0)] (ar [aa 5 0,c4 6 5,aa 3 6] (a6 (ar [bE 4 (aB 0)] (.block 0 (.loop (a6 (ar [aa 7 4,aa 8 0,c4 9 8,aT 10 .lss dS fu] (bt 10 .skip (.exit 0))) (a6 (.block 1 (.region [aa 13 3,aa 14 0,aa 15 4,cX 16 11 fP ew,aP 17 2 16,cg 18 6 17,aG 19 (.eu 120 6 1 [.int .i64 0,.str [],.str [],.str [],.int .i64 0,.bn] [(0,gX)]),jk 20 119 [gl],aa 21 0,aa 22 4,cX 23 11 iJ hY,aP 24 9 23,aR 25 24,jk 26 118 [hZ],aT 27 .add ie jn,aa 28 0,aa 29 4,cX 30 11 iK kc,aP 31 10 30,aR 32 31,jk 33 118 [ke],aT 34 .add gN kf,aT 35 .add eZ jP,aa 3 35] true)) (cr [aa 11 4,aT 12 .add dR (aB 1),aa 4 12])))))) (bo [aa 36 3,aa 2 36])))
def Od:List bj:=[.t 2]
theorem Sy:b4 aS9 Tryz.f118 1 IF Od=true:=by kernel_rfl
def IG:bu:=
 ar [bE 2 (aB 0)] (ar [aa 5 0,c4 6 5,aa 3 6] (a6 (ar [bE 4 (aB 0)] (.block 0 (.loop (a6 (ar [aa 7 4,aa 8 0,c4 9 8,aT 10 .lss dS fu] (bt 10 .skip (.exit 0))) (a6 (.block 1 (cr [aa 13 3,aa 14 0,aa 15 4,cX 16 6 fP ew,aP 17 5 16,aR 18 17,bR 19 119 [gX],aT 20 .add eZ gl,aa 3 20])) (cr [aa 11 4,aT 12 .add dR (aB 1),aa 4 12])))))) (bo [aa 21 3,aa 2 21])))
def Oe:List bj:=[.t 2]
theorem Sz:b4 aS9 Tryz.f119 1 IG Oe=true:=by kernel_rfl
def IK:bu:=
 ar [cq 2] (bo [aa 3 0,aT 4 .leq (.c (.int .u8 97)) ft,aa 5 4,dX 6 5 true 0,cO 7 5 true .leq eo (.c (.int .u8 122)),bX 8 en dS db,aa 9 8,dX 10 9 false 0,cO 11 9 false .leq (.c (.int .u8 65)) gW,dX 12 9 false 11,dX 13 12 true 0,cO 14 12 true .leq eZ (.c (.int .u8 90)),cx 15 9 false (.pick eK fP db),bX 16 fu dG ew,aa 2 16])
def Oi:List bj:=[.t 2]
theorem SD:b4 aS9 Tryz.f145 1 IK Oi=true:=by kernel_rfl
def IL:bu:=
 ar [cq 2] (bo [aa 3 0,bR 4 145 [ft],aa 5 4,dX 6 5 false 0,eW 7 5 false 242 [eo],bX 8 en dG dS,aa 9 8,dX 10 9 false 0,cO 11 9 false .eql gW (.c (.int .u8 95)),bX 12 fu dG dR,aa 2 12])
def Oj:List bj:=[.t 2]
theorem SE:b4 aS9 Tryz.f146 1 IL Oj=true:=by kernel_rfl
def Dc:bu:=
 ar [cq 4] (bo [aa 5 0,aa 6 1,bR 7 261 [en,eo],aT 8 .geq dS (aB 0),aa 4 8])
def Fe:List bj:=[.t 4]
theorem Ho:b4 aS9 Tryz.f162 2 Dc Fe=true:=by kernel_rfl
def Ax:bu:=
 ar [bE 4 (aB 0)] (a6 (ar [aa 6 0,c4 7 6,bE 8 (aB 0)] (.block 0 (.loop (ar [aT 9 .lss dH dS] (a6 (bt 9 .skip (.exit 0)) (a6 (.block 1 (ar [aa 10 8,aa 5 10] (ar [aa 11 1,aa 12 0,aa 13 5,cX 14 4 eK eZ,cg 15 4 14,aG 16 (.fx dR [ew])] (bt 16 (bo [aa 17 5,aa 4 17]) .skip)))) (cr [aT 18 .add dH (aB 1),aa 8 18]))))))) (bo [bE 4 (aB (-1))]))
def BC:List bj:=[.t 4]
theorem CD:b4 aS9 Tryz.f183 2 Ax BC=true:=by kernel_rfl
def I0:bu:=
 ar [cq 4] (bo [aa 5 0,aa 6 1,bR 7 93 [en,eo],aT 8 .geq dS (aB 0),aa 4 8])
def OB:List bj:=[.t 4]
theorem SS:b4 aS9 Tryz.f198 2 I0 OB=true:=by kernel_rfl
def I1:bu:=
 ar [aG 2 (.box 146 eY),cq 3] (bo [aR 4 1,cg 5 7 2,aG 6 (.fx iL [en]),gD 7 6,aa 3 7])
def OC:List bj:=[.t 3]
theorem SU:b4 aS9 Tryz.f199 1 I1 OC=true:=by kernel_rfl
def I2:bu:=
 ar [cq 2] (bo [aa 3 0,aT 4 .geq ft (aB (-999999)),aa 5 4,dX 6 5 true 0,cO 7 5 true .leq eo (aB 999999),bX 8 en dS db,aa 2 8])
def OD:List bj:=[.t 2]
theorem SV:b4 aS9 Tryz.f200 1 I2 OD=true:=by kernel_rfl
def I3:bu:=
 ar [cq 2] (bo [aa 3 0,aG 4 (.kV ft),aT 5 .leq iL (aB 40),aa 6 5,dX 7 6 true 0,eW 8 6 true 293 [dS,.c (.fn 294 [])],cx 9 6 true (.not dH),bX 10 eo fu db,aa 2 10])
def OE:List bj:=[.t 2]
theorem SX:b4 aS9 Tryz.f201 1 I3 OE=true:=by kernel_rfl
def I4:bu:=
 ar [aG 2 (.box 84 eY),cq 3] (bo [aR 4 1,cg 5 4 2,aG 6 (.fx iL [en]),gD 7 6,aa 3 7])
def OF:List bj:=[.t 3]
theorem SY:b4 aS9 Tryz.f202 1 I4 OF=true:=by kernel_rfl
def I5:bu:=
 ar [aG 1 (.box 82 eY),cq 2] (bo [cg 3 11 1,bR 4 204 [ft],aT 5 .leq iL (aB 10),aa 2 5])
def OG:List bj:=[.t 2]
theorem SZ:b4 aS9 Tryz.f203 1 I5 OG=true:=by kernel_rfl
def I6:bu:=
 ar [aG 1 (.box 82 eY),bE 2 (aB 0)] (ar [aP 6 2 1,cg 7 6 6,bR 8 212 [dS],aa 3 8] (a6 (ar [aP 9 9 1,aR 10 9,aP 11 10 1,aR 12 11,aG 13 (.eu 77 1 2 [.bn] [(0,gW),(1,eK)]),bR 14 295 [eZ],c4 15 14,bE 16 (aB 0)] (.block 0 (.loop (ar [aT 17 .lss hP ew] (a6 (bt 17 .skip (.exit 0)) (a6 (.block 1 (ar [cX 18 11 fP hP,cg 19 11 18,aG 5 (.alloc 82 [.int .i64 0,.str [],.int .i64 0,.str [],.str [],.str [],.int .i64 0,.bn,.int .i64 0,.bn,.bn]),dm 11 5 gl] (cr [aa 20 3,cg 21 11 5,bR 22 204 [iJ],aG 23 (.j4 true [ie,hY]),aa 3 23]))) (cr [aT 24 .add hP (aB 1),aa 16 24]))))))) (bo [aa 25 3,aT 26 .add (aB 1) hZ,aa 2 26])))
def OH:List bj:=[.t 2]
theorem S0:b4 aS9 Tryz.f204 1 I6 OH=true:=by kernel_rfl
def I7:bu:=
 ar [cq 2] (bo [aa 3 0,aG 4 (.kV ft),aT 5 .leq iL (aB 50),aa 6 5,dX 7 6 true 0,eW 8 6 true 297 [dS,cH [46]],eW 9 6 true 296 [dH,.c (.fn 298 [])],cx 10 6 true (.not fu),bX 11 eo gW db,aa 2 11])
def OI:List bj:=[.t 2]
theorem S1:b4 aS9 Tryz.f205 1 I7 OI=true:=by kernel_rfl
def I8:bu:=
 ar [aG 3 (.box 174 iI),cq 4] (bo [aa 5 0,aG 6 (.iS 299 [ft]),bR 7 296 [en,eo],gD 8 7,aa 4 8])
def OJ:List bj:=[.t 4]
theorem S2:b4 aS9 Tryz.f206 2 I8 OJ=true:=by kernel_rfl
def I9:bu:=
 ar [aG 3 (.box 293 iI),cq 4] (bo [aa 5 0,aG 6 (.iS 301 [ft]),bR 7 300 [en,eo],gD 8 7,aa 4 8])
def OK:List bj:=[.t 4]
theorem S3:b4 aS9 Tryz.f207 2 I9 OK=true:=by kernel_rfl
def Ja:bu:=
 ar [aG 1 (.box 82 eY),cq 2] (a6 (ar [aP 3 0 1,aR 4 3] (.block 0 (ar [aT 6 .eql iL (aB 1),aa 5 6] (bt 5 (ar [aP 7 1 1,aR 8 7,bR 9 109 [dH],gD 10 9,aa 11 10,bO 12 11 false 8 1,bW 13 11 false 12,cO 14 11 false .neq eZ (aB 0),bX 15 dR dG fP,aa 16 15,bO 17 16 false 9 1,bW 18 16 false 17,cx 19 16 false (.len gX),cO 20 16 false .gtr gl (aB 0),bX 21 hP dG ie,aa 22 21,bO 23 22 false 10 1,bW 24 22 false 23,cx 25 22 false (.len gY),cO 26 22 false .gtr hZ (aB 0),bX 27 hY dG jn] (bt 27 (bo [cq 2]) .skip)) (ar [aT 29 .eql iL (aB 2),aa 28 29] (bt 28 (ar [aP 30 1 1,aR 31 30,aT 32 .neq iX (cH []),aa 33 32,bO 34 33 false 8 1,bW 35 33 false 34,cO 36 33 false .neq na (aB 0),bX 37 kf dG js] (bt 37 (bo [cq 2]) .skip)) (ar [aT 39 .eql iL (aB 3),aa 38 39] (bt 38 (ar [aP 40 1 1,aR 41 40,aT 42 .neq ms (cH []),aa 43 42,bO 44 43 false 8 1,bW 45 43 false 44,cO 46 43 false .lss nc (aB 1),bX 47 mu dG mv,aa 48 47,bO 49 48 false 8 1,bW 50 48 false 49,cO 51 48 false .gtr jQ (aB 50),bX 52 rR dG lW,aa 53 52,bO 54 53 false 10 1,bW 55 53 false 54,cx 56 53 false (.len ou),cO 57 53 false .gtr ly (aB 0),bX 58 rS dG pP] (bt 58 (bo [cq 2]) .skip)) (bo [cq 2]))))))))) (bo [aP 59 2 1,cg 60 6 59,bR 61 215 [rT],aa 62 61,bO 63 62 true 9 1,bW 64 62 true 63,eW 65 62 true 207 [qO,.c (.fn 208 [])],bX 66 rU vF db,aa 67 66,bO 68 67 true 10 1,bW 69 67 true 68,eW 70 67 true 207 [rV,.c (.fn 208 [])],bX 71 qP qQ db,aa 2 71]))
def OL:List bj:=[.t 2]
theorem S4:b4 aS9 Tryz.f208 1 Ja OL=true:=by kernel_rfl
def Jb:bu:=
 ar [cq 4] (bo [aa 5 0,aa 6 1,bR 7 302 [en,eo],aT 8 .geq dS (aB 0),aa 4 8])
def OM:List bj:=[.t 4]
theorem S5:b4 aS9 Tryz.f209 2 Jb OM=true:=by kernel_rfl
def Jc:bu:=
 ar [aG 2 (.box 148 eY),cq 3] (bo [aR 4 1,cg 5 4 2,aG 6 (.fx iL [en]),gD 7 6,aa 3 7])
def OO:List bj:=[.t 3]
theorem S7:b4 aS9 Tryz.f210 1 Jc OO=true:=by kernel_rfl
def Jd:bu:=
 ar [aG 1 (.box 80 eY),cq 2] (bo [cg 3 6 1,bR 4 212 [ft],aT 5 .leq iL (aB 10),aa 2 5])
def OP:List bj:=[.t 2]
theorem S8:b4 aS9 Tryz.f211 1 Jd OP=true:=by kernel_rfl
def Je:bu:=
 ar [aG 1 (.box 80 eY),bE 2 (aB 0)] (ar [bE 3 (aB 0)] (a6 (ar [aP 6 5 1,aR 7 6,c4 8 7,bE 9 (aB 0)] (.block 0 (.loop (ar [aT 10 .lss fu dH] (a6 (bt 10 .skip (.exit 0)) (a6 (.block 1 (ar [cX 11 6 dS fu,cg 12 6 11,aG 5 (.alloc 80 [.int .i64 0,.str [],.str [],.str [],.int .i64 0,.bn]),dm 6 5 eK] (cr [aa 13 3,cg 14 6 5,bR 15 212 [fP],aG 16 (.j4 true [eZ,ew]),aa 3 16]))) (cr [aT 17 .add fu (aB 1),aa 9 17]))))))) (bo [aa 18 3,aT 19 .add (aB 1) gX,aa 2 19])))
def OQ:List bj:=[.t 2]
theorem S9:b4 aS9 Tryz.f212 1 Je OQ=true:=by kernel_rfl
def Jf:bu:=
 ar [bE 2 (.c .bn)] (ar [bE 3 (aB 0)] (a6 (ar [aa 9 0,c4 10 9,bE 11 (aB 0)] (.block 0 (.loop (ar [aT 12 .lss dR gW] (a6 (bt 12 .skip (.exit 0)) (a6 (.block 1 (ar [cX 13 1 fu dR,aR 14 13,aa 5 14] (ar [aa 15 3,aa 16 5,c4 17 16,aT 18 .add ew gM,aa 3 18] (ar [aa 19 3,aT 20 .lss gl (aB 0)] (bt 20 (cr [aG 21 (.oR 9 (cH [108,101,110,32,111,117,116,32,111,102,32,114,97,110,103,101])),vb (.panic iJ)]) .skip))))) (cr [aT 22 .add dR (aB 1),aa 11 22]))))))) (ar [aa 23 3,bR 24 303 [.c .bn,gG],aa 6 24] (a6 (ar [aa 25 0,c4 26 25,bE 27 (aB 0)] (.block 2 (.loop (ar [aT 28 .lss gN jn] (a6 (bt 28 .skip (.exit 2)) (a6 (.block 3 (ar [cX 29 1 hZ gN,aR 30 29,aa 8 30] (cr [aa 31 6,aa 32 8,aG 33 (.append 80 6 88 iX ke),aa 6 33]))) (cr [aT 34 .add gN (aB 1),aa 27 34]))))))) (bo [aa 35 6,aa 2 35])))))
def OR:List bj:=[.t 2]
theorem Ta:b4 aS9 Tryz.f213 1 Jf OR=true:=by kernel_rfl
def Jg:bu:=
 ar [aG 3 (.box 296 iI),cq 4] (bo [aa 5 0,aG 6 (.iS 305 [ft]),bR 7 304 [en,eo],gD 8 7,aa 4 8])
def OS:List bj:=[.t 4]
theorem Tb:b4 aS9 Tryz.f214 2 Jg OS=true:=by kernel_rfl
def Jh:bu:=
 ar [aG 1 (.box 80 eY),cq 2] (ar [aP 5 0 1,aR 6 5,aP 7 5 1,aR 8 7,aG 9 (.build [.int .i64 0,.str [],.str [],.str [],.int .i64 0,.bn] [(0,1,eo),(5,1,dH)]),aG 3 (.alloc 80 [.int .i64 0,.str [],.str [],.str [],.int .i64 0,.bn]),dm 6 3 fu] (ar [bE 4 (aB 0)] (a6 (ar [aP 10 0 1,aR 11 10] (.block 0 (ar [aT 13 .eql dR (aB 1),aa 12 13] (bt 12 (ar [aP 14 4 1,aR 15 14,aP 16 4 3,dm 1 16 ew] (ar [aP 17 4 1,aR 18 17,aT 19 .lss gX (aB 0),aa 20 19,bO 21 20 false 4 1,bW 22 20 false 21,cO 23 20 false .gtr hY (aB 1000),bX 24 ie dG gG] (bt 24 (bo [cq 2]) .skip))) (ar [aT 26 .eql dR (aB 2),aa 25 26] (bt 25 (ar [aP 27 3 1,aR 28 27,aP 29 3 3,dm 1 29 iK] (ar [aP 30 3 1,aR 31 30,bR 32 201 [iX],gD 33 32] (bt 33 (bo [cq 2]) .skip))) (ar [aT 35 .eql dR (aB 3),aa 34 35] (bt 34 (ar [aP 36 2 1,aR 37 36,aP 38 2 3,dm 1 38 lV] (ar [aP 39 2 1,aR 40 39,bR 41 109 [mr],gD 42 41] (bt 42 (bo [cq 2]) .skip))) (ar [aT 44 .eql dR (aB 4),aa 43 44] (bt 43 (cr [bE 4 (aB 1)]) (ar [aT 46 .eql dR (aB 5),aa 45 46] (bt 45 (ar [aP 47 1 1,aR 48 47,aP 49 1 3,dm 1 49 rR,bE 4 (aB 1)] (ar [aP 50 1 1,aR 51 50,aT 52 .neq lW (cH [45]),aa 53 52,bO 54 53 true 1 1,bW 55 53 true 54,cO 56 53 true .neq ou (cH [33]),bX 57 rS ly db] (bt 57 (bo [cq 2]) .skip))) (ar [aT 59 .eql dR (aB 6),aa 58 59] (bt 58 (ar [aP 60 1 1,aR 61 60,aP 62 1 3,dm 1 62 o5,bE 4 (aB 2)] (ar [aP 63 1 1,aR 64 63,bR 65 306 [qO],aT 66 .eql vF (aB 0)] (bt 66 (bo [cq 2]) .skip))) (bo [cq 2]))))))))))))))) (bo [aP 67 5 1,aR 68 67,c4 69 68,aa 70 4,aT 71 .eql rV qQ,aa 72 71,bO 73 72 true 1 1,bW 74 72 true 73,bO 75 72 true 1 3,bW 76 72 true 75,cO 77 72 true .eql xp vI,bX 78 vH vJ db,aa 79 78,bO 80 79 true 2 1,bW 81 79 true 80,bO 82 79 true 2 3,bW 83 79 true 82,cO 84 79 true .eql zA xr,bX 85 BY xt db,aa 86 85,bO 87 86 true 3 1,bW 88 86 true 87,bO 89 86 true 3 3,bW 90 86 true 89,cO 91 86 true .eql FY QO,bX 92 zB FZ db,aa 93 92,bO 94 93 true 4 1,bW 95 93 true 94,bO 96 93 true 4 3,bW 97 93 true 96,cO 98 93 true .eql F2 QP,bX 99 B1 QQ db,aa 100 99,bO 101 100 true 5 1,bW 102 100 true 101,eW 103 100 true 214 [FW,.c (.fn 215 [])],bX 104 QE ay8 db,aa 2 104]))))
def OT:List bj:=[.t 2]
theorem Tc:b4 aS9 Tryz.f215 1 Jh OT=true:=by kernel_rfl
def Ji:bu:=
 a6 (.region [aa 6 0,aG 7 (.fB eo),aP 8 0 7,aa 9 0,aG 10 (.fB fu),aP 11 2 10,aR 12 11,jk 13 308 [cH [9],eK],bR 14 307 [dH,eZ]] true) (a6 (ar [aa 15 1,c4 16 15,bE 17 (aB 0)] (.block 0 (.loop (ar [aT 18 .lss gM hP] (a6 (bt 18 .skip (.exit 0)) (a6 (.block 1 (ar [cX 19 1 ew gM,aR 20 19,aa 5 20] (cr [aa 21 0,aG 22 (.fB iJ),aP 23 0 22,aa 24 5,bR 25 307 [gG,gY]]))) (cr [aT 26 .add gM (aB 1),aa 17 26]))))))) (cr [aa 27 0,aG 28 (.fB gN),aP 29 0 28,bR 30 309 [kc,.c (.int .u8 10)]]))
def OU:List bj:=[]
theorem Td:b4 aS9 Tryz.f216 2 Ji OU=true:=by kernel_rfl
def Jj:bu:=
 ar [aG 1 (.box 89 eY),bE 2 (cH [])] (a6 (ar [aP 3 0 1,aR 4 3,aT 5 .eql iL (aB 2)] (bt 5 (bo [aP 6 2 1,aR 7 6,bR 8 311 [dS],aa 2 8]) .skip)) (bo [aP 9 1 1,aR 10 9,bR 11 217 [gW],aa 2 11]))
def OV:List bj:=[.t 2]
theorem Te:b4 aS9 Tryz.f218 1 Jj OV=true:=by kernel_rfl
def Jk:bu:=
 ar [aa 6 0,aG 7 (.fB eo),aP 8 2 7,aR 9 8,aT 10 .add fu (aB 1),aG 11 (.fB eo),aP 12 2 11,dm 1 12 gW] (a6 (ar [aa 13 1,c4 14 13,bE 15 (aB 0)] (.block 0 (.loop (ar [aT 16 .lss ew fP] (a6 (bt 16 .skip (.exit 0)) (a6 (.block 1 (ar [cX 17 11 eZ ew,cg 18 11 17,aG 5 (.alloc 82 [.int .i64 0,.str [],.int .i64 0,.str [],.str [],.str [],.int .i64 0,.bn,.int .i64 0,.bn,.bn]),dm 11 5 gX] (cr [aa 19 0,cg 20 11 5,bR 21 313 [gl,ie]]))) (cr [aT 22 .add ew (aB 1),aa 15 22]))))))) (cr [aa 23 0,aG 24 (.fB gG),aP 25 2 24,aR 26 25,aT 27 .sub jn (aB 1),aG 28 (.fB gG),aP 29 2 28,dm 1 29 gN]))
def OW:List bj:=[]
theorem Tf:b4 aS9 Tryz.f220 2 Jk OW=true:=by kernel_rfl
def Dg:bu:=
 ar [aG 1 (.box 80 eY),bE 2 (cH [])] (a6 (ar [aP 4 0 1,aR 5 4] (.block 0 (ar [aT 7 .eql en (aB 1),aa 6 7] (bt 6 (bo [aP 8 4 1,aR 9 8,bR 10 217 [fu],aa 2 10]) (ar [aT 12 .eql en (aB 2),aa 11 12] (bt 11 (bo [aP 13 3 1,aR 14 13,bR 15 311 [fP],aa 2 15]) (ar [aT 17 .eql en (aB 3),aa 16 17] (bt 16 (bo [aP 18 2 1,aR 19 18,aa 2 19]) (ar [aT 21 .eql en (aB 4),aa 20 21] (bt 20 (bo [aP 22 5 1,aR 23 22,cX 24 6 gG (aB 0),cg 25 6 24,bR 26 221 [hZ],aT 27 .add (cH [108,101,110,40]) jn,aT 28 .add gN (cH [41]),aa 2 28]) (ar [aT 30 .eql en (aB 5),aa 29 30] (bt 29 (a6 (.region [aP 31 1 1,aR 32 31,aP 33 5 1,aR 34 33,cX 35 6 jP (aB 0),cg 36 6 35,jk 37 314 [js,aB 7],aT 38 .add ke lV,aa 2 38] true) .ret) .skip)))))))))))) (ar [aP 39 1 1,aR 40 39,bR 41 306 [mr],aa 3 41] (a6 (.region [aP 42 5 1,aR 43 42,cX 44 6 mu (aB 0),cg 45 6 44,aa 46 3,jk 47 314 [nc,mv],aT 48 .add rQ (cH [32]),aP 49 1 1,aR 50 49,aT 51 .add rR jQ,aT 52 .add lW (cH [32]),aP 53 5 1,aR 54 53,cX 55 6 mw (aB 1),cg 56 6 55,aa 57 3,aT 58 .add pP (aB 1),jk 59 314 [ly,mx],aT 60 .add nd qM,aa 2 60] true) .ret)))
def OX:List bj:=[.t 2]
theorem Tg:b4 aS9 Tryz.f221 1 Dg OX=true:=by kernel_rfl
def Jl:bu:=
 ar [bE 2 (cH [])] (ar [bE 3 (.c .bn)] (a6 (ar [aa 6 0,c4 7 6,bE 8 (aB 0)] (.block 0 (.loop (ar [aT 9 .lss dH dS] (a6 (bt 9 .skip (.exit 0)) (a6 (.block 1 (ar [cX 10 6 eo dH,cg 11 6 10,aG 5 (.alloc 80 [.int .i64 0,.str [],.str [],.str [],.int .i64 0,.bn]),dm 6 5 dR] (cr [aa 12 3,cg 13 6 5,bR 14 221 [eZ],aG 15 (.eu 9 1 1 [.str []] [(0,fP)]),aG 16 (.append 9 1 16 eK ew),aa 3 16]))) (cr [aT 17 .add dH (aB 1),aa 8 17]))))))) (bo [aa 18 3,bR 19 219 [gX,cH [44,32]],aa 2 19])))
def OY:List bj:=[.t 2]
theorem Th:b4 aS9 Tryz.f222 1 Jl OY=true:=by kernel_rfl
def Dh:bu:=
 ar [bE 4 (aB 0)] (a6 (ar [aa 6 0,c4 7 6,bE 8 (aB 0)] (.block 0 (.loop (ar [aT 9 .lss dH dS] (a6 (bt 9 .skip (.exit 0)) (a6 (.block 1 (ar [aa 10 8,aa 5 10] (ar [aa 11 1,aa 12 0,aa 13 5,cX 14 7 eK eZ,cg 15 7 14,aG 16 (.fx dR [ew])] (bt 16 (bo [aa 17 5,aa 4 17]) .skip)))) (cr [aT 18 .add dH (aB 1),aa 8 18]))))))) (bo [bE 4 (aB (-1))]))
def Fi:List bj:=[.t 4]
theorem Hr:b4 aS9 Tryz.f261 2 Dh Fi=true:=by kernel_rfl
def Jz:bu:=
 (.seq
 (.region [aG 2 (.fO (.c (.bool false)))] false)
 (.seq
 (.region [aG 3 (.fO (.t 0)),aG 4 (.bin .lss (.t 3) (.c (.int .i32 32))),aG 5 (.fO (.t 4)),cx 6 5 false (.fO (.t 0)),cx 7 5 false (.bin .gtr (.t 6) (.c (.int .i32 126))),aG 8 (.pick (.t 5) (.c (.bool true)) (.t 7)),aG 2 (.fO (.t 8))] false)
 .ret))
def Pc:List bj:=[.t 2]
theorem Tv:b4 aS9 Tryz.f294 1 Jz Pc=true:=by kernel_rfl
def JA:bu:=
 ar [bE 2 (.c .bn)] (ar [bE 3 (aB 0)] (a6 (ar [aa 9 0,c4 10 9,bE 11 (aB 0)] (.block 0 (.loop (ar [aT 12 .lss dR gW] (a6 (bt 12 .skip (.exit 0)) (a6 (.block 1 (ar [cX 13 1 fu dR,aR 14 13,aa 5 14] (ar [aa 15 3,aa 16 5,c4 17 16,aT 18 .add ew gM,aa 3 18] (ar [aa 19 3,aT 20 .lss gl (aB 0)] (bt 20 (cr [aG 21 (.oR 9 (cH [108,101,110,32,111,117,116,32,111,102,32,114,97,110,103,101])),vb (.panic iJ)]) .skip))))) (cr [aT 22 .add dR (aB 1),aa 11 22]))))))) (ar [aa 23 3,bR 24 355 [.c .bn,gG],aa 6 24] (a6 (ar [aa 25 0,c4 26 25,bE 27 (aB 0)] (.block 2 (.loop (ar [aT 28 .lss gN jn] (a6 (bt 28 .skip (.exit 2)) (a6 (.block 3 (ar [cX 29 1 hZ gN,aR 30 29,aa 8 30] (cr [aa 31 6,aa 32 8,aG 33 (.append 82 11 168 iX ke),aa 6 33]))) (cr [aT 34 .add gN (aB 1),aa 27 34]))))))) (bo [aa 35 6,aa 2 35])))))
def Pd:List bj:=[.t 2]
theorem Tw:b4 aS9 Tryz.f295 1 JA Pd=true:=by kernel_rfl
def Dj:bu:=
 ar [cq 4] (bo [aa 5 0,aa 6 1,bR 7 356 [en,eo],aT 8 .geq dS (aB 0),aa 4 8])
def Fk:List bj:=[.t 4]
theorem Ht:b4 aS9 Tryz.f296 2 Dj Fk=true:=by kernel_rfl
def JB:bu:=
 ar [cq 2] (bo [aa 3 0,bR 4 109 [ft],gD 5 4,aa 2 5])
def Pe:List bj:=[.t 2]
theorem Tx:b4 aS9 Tryz.f298 1 JB Pe=true:=by kernel_rfl
def JC:bu:=
 ar [cq 3] (bo [aR 4 1,aa 5 0,aG 6 (.fx iL [en]),gD 7 6,aa 3 7])
def Pf:List bj:=[.t 3]
theorem Ty:b4 aS9 Tryz.f299 1 JC Pf=true:=by kernel_rfl
def JE:bu:=
 ar [cq 4] (bo [aa 5 0,aa 6 1,bR 7 358 [en,eo],aT 8 .geq dS (aB 0),aa 4 8])
def Ph:List bj:=[.t 4]
theorem TA:b4 aS9 Tryz.f300 2 JE Ph=true:=by kernel_rfl
def JF:bu:=
 ar [aG 2 (.box 82 eY),cq 3] (bo [aR 4 1,cg 5 11 2,aG 6 (.fx iL [en]),gD 7 6,aa 3 7])
def Pj:List bj:=[.t 3]
theorem TB:b4 aS9 Tryz.f301 1 JF Pj=true:=by kernel_rfl
def JG:bu:=
 ar [bE 4 (aB 0)] (a6 (ar [aa 6 0,c4 7 6,bE 8 (aB 0)] (.block 0 (.loop (ar [aT 9 .lss dH dS] (a6 (bt 9 .skip (.exit 0)) (a6 (.block 1 (ar [aa 10 8,aa 5 10] (ar [aa 11 1,aa 12 0,aa 13 5,cX 14 4 eK eZ,cg 15 4 14,aG 16 (.fx dR [ew])] (bt 16 (bo [aa 17 5,aa 4 17]) .skip)))) (cr [aT 18 .add dH (aB 1),aa 8 18]))))))) (bo [bE 4 (aB (-1))]))
def Pk:List bj:=[.t 4]
theorem TC:b4 aS9 Tryz.f302 2 JG Pk=true:=by kernel_rfl
def JH:bu:=
 ar [cq 4] (bo [aa 5 0,aa 6 1,bR 7 359 [en,eo],aT 8 .geq dS (aB 0),aa 4 8])
def Pl:List bj:=[.t 4]
theorem TD:b4 aS9 Tryz.f304 2 JH Pl=true:=by kernel_rfl
def JI:bu:=
 ar [aG 2 (.box 80 eY),cq 3] (bo [aR 4 1,cg 5 6 2,aG 6 (.fx iL [en]),gD 7 6,aa 3 7])
def Pm:List bj:=[.t 3]
theorem TE:b4 aS9 Tryz.f305 1 JI Pm=true:=by kernel_rfl
def JJ:bu:=
 ar [bE 2 (aB 0)] (a6 (ar [aa 3 0] (.block 0 (ar [aT 5 .eql ft (cH [124,124]),aa 4 5] (bt 4 (bo [bE 2 (aB 1)]) (ar [aT 7 .eql ft (cH [38,38]),aa 6 7] (bt 6 (bo [bE 2 (aB 2)]) (a6 (ar [aT 9 .eql ft (cH [61,61]),aa 8 9] (bt 8 .skip (cr [aT 10 .eql ft (cH [33,61]),aa 8 10]))) (bt 8 (bo [bE 2 (aB 3)]) (a6 (ar [aT 12 .eql ft (cH [60]),aa 11 12] (bt 11 .skip (ar [aT 13 .eql ft (cH [60,61]),aa 11 13] (bt 11 .skip (ar [aT 14 .eql ft (cH [62]),aa 11 14] (bt 11 .skip (cr [aT 15 .eql ft (cH [62,61]),aa 11 15]))))))) (bt 11 (bo [bE 2 (aB 4)]) (a6 (ar [aT 17 .eql ft (cH [43]),aa 16 17] (bt 16 .skip (cr [aT 18 .eql ft (cH [45]),aa 16 18]))) (bt 16 (bo [bE 2 (aB 5)]) (a6 (ar [aT 20 .eql ft (cH [42]),aa 19 20] (bt 19 .skip (ar [aT 21 .eql ft (cH [47]),aa 19 21] (bt 19 .skip (cr [aT 22 .eql ft (cH [37]),aa 19 22]))))) (bt 19 (bo [bE 2 (aB 6)]) .skip)))))))))))))) (bo [bE 2 (aB 0)]))
def Pn:List bj:=[.t 2]
theorem TF:b4 aS9 Tryz.f306 1 JJ Pn=true:=by kernel_rfl
def JK:bu:=
 ar [bE 4 (aB 0),bE 5 (.c (.dI .nilIface))] (ar [aa 6 0,bR 7 360 [eo]] (ar [aa 8 0,aa 9 0,aG 10 (.fB fu),aP 11 1 10,aR 12 11,aa 13 1,aG 14 (.append 5 1 1 eK eZ),aG 15 (.fB dH),aP 16 1 15,dm 1 16 fP] (bo [aa 17 1,aG 18 (.kV gM),aa 4 18,bE 5 (.c (.dI .nilIface))])))
def Po:List bj:=[.t 4,.t 5]
theorem TG:b4 aS9 Tryz.f307 2 JK Po=true:=by kernel_rfl
def JL:bu:=
 ar [bE 4 (.c (.dI .nilIface))] (ar [aa 5 0,bR 6 360 [en]] (ar [aa 7 0,aa 8 0,aG 9 (.fB dH),aP 10 1 9,aR 11 10,aa 12 1,aG 13 (.eu 5 1 1 [.int .u8 0] [(0,eK)]),aG 14 (.append 5 1 1 dR eZ),aG 15 (.fB dS),aP 16 1 15,dm 1 16 fP] (bo [bE 4 (.c (.dI .nilIface))])))
def Pp:List bj:=[.t 4]
theorem TH:b4 aS9 Tryz.f309 2 JL Pp=true:=by kernel_rfl
def JM:bu:=
 ar [bE 2 (cH [])] (ar [aG 3 (.alloc 302 [.dI (.pointer none),.bn])] (ar [bR 5 309 [ft,.c (.int .u8 34)]] (a6 (ar [aa 6 0,aG 7 (.kV eo),bE 8 (aB 0)] (.block 0 (.loop (ar [aT 9 .lss dH dS] (a6 (bt 9 .skip (.exit 0)) (a6 (.block 1 (ar [aa 10 8,aa 4 10] (a6 (ar [aa 11 0,aa 12 4,aG 13 (.gp dR eK),aT 14 .eql eZ (.c (.int .u8 34)),aa 15 14,dX 16 15 false 0,dX 17 15 false 4,cx 18 15 false (.gp hP gM),cO 19 15 false .eql gX (.c (.int .u8 92)),bX 20 ew dG gl] (bt 20 (cr [bR 21 309 [ft,.c (.int .u8 92)]]) .skip)) (cr [aa 22 0,aa 23 4,aG 24 (.gp hY gG),bR 25 309 [ft,gY]])))) (cr [aT 26 .add dH (aB 1),aa 8 26]))))))) (ar [bR 27 309 [ft,.c (.int .u8 34)]] (bo [bR 28 223 [ft],aa 2 28])))))
def Pr:List bj:=[.t 2]
theorem TJ:b4 aS9 Tryz.f311 1 JM Pr=true:=by kernel_rfl
def Az:bu:=
 ar [aG 3 (.box 82 iI)] (ar [aP 5 0 3,aR 6 5] (.block 0 (ar [aT 49 .eql eo (aB 1),aa 48 49] (bt 48 (.region [aa 50 0,aP 51 1 3,aR 52 51,aP 53 2 3,cg 54 6 53,jk 55 221 [mw],aG 56 (.eu 9 1 4 [.str []] [(0,nd),(1,cH [32,61,32]),(2,ou),(3,cH [59])]),bR 57 216 [jQ,ly]] true) (ar [aT 59 .eql eo (aB 3),aa 58 59] (bt 58 (a6 (.region [aa 60 0,aP 61 2 3,cg 62 6 61,jk 63 221 [rU],aP 64 8 3,aR 65 64,jk 66 217 [vF],aG 67 (.eu 9 1 5 [.str []] [(0,cH [119,104,105,108,101,32]),(1,qN),(2,cH [32,116,105,109,101,115,32]),(3,o6),(4,cH [32,123])]),bR 68 216 [rT,qP]] true) (ar [aa 69 0,aP 70 9 3,aR 71 70,bR 72 220 [rV,qR]] (cr [aa 73 0,aG 74 (.eu 9 1 1 [.str []] [(0,cH [125])]),bR 75 216 [xo,xp]]))) (ar [bE 4 (cH [105,102,32])] (a6 (.block 1 (.loop (.block 2 (ar [aa 7 0,aa 8 4,aP 9 2 3,cg 10 6 9,bR 11 221 [gW],aG 12 (.eu 9 1 3 [.str []] [(0,dH),(1,dR),(2,cH [32,123])]),bR 13 216 [dS,eK]] (ar [aa 14 0,aP 15 9 3,aR 16 15,bR 17 220 [fP,hP]] (a6 (ar [aP 18 10 3,aR 19 18,c4 20 19,aT 21 .neq ie (aB 1),aa 22 21,bO 23 22 false 10 3,bW 24 22 false 23,cx 25 22 false (.gS 11 gY (aB 0)),bO 26 22 false 0 25,bW 27 22 false 26,cO 28 22 false .neq gN (aB 2),bX 29 hY dG iK] (bt 29 (.exit 1) .skip)) (cr [aP 30 10 3,aR 31 30,cX 32 11 iX (aB 0),cg 33 11 32,dm 11 3 kf,bE 4 (cH [125,32,101,108,115,101,32,105,102,32])]))))))) (a6 (ar [aP 34 10 3,aR 35 34,c4 36 35,aT 37 .gtr js (aB 0)] (bt 37 (ar [aa 38 0,aG 39 (.eu 9 1 1 [.str []] [(0,cH [125,32,101,108,115,101,32,123])]),bR 40 216 [mq,nb]] (cr [aa 41 0,aP 42 10 3,aR 43 42,bR 44 220 [ms,mu]])) .skip)) (cr [aa 45 0,aG 46 (.eu 9 1 1 [.str []] [(0,cH [125])]),bR 47 216 [nc,mv]]))))))))))
def BF:List bj:=[]
theorem CG:b4 aS9 Tryz.f313 2 Az BF=true:=by kernel_rfl
def AA:bu:=
 ar [aG 2 (.box 80 eY),bE 4 (cH [])] (a6 (ar [aP 5 0 2,aR 6 5,aT 7 .eql eo (aB 6),aa 8 7,bO 9 8 true 1 2,bW 10 8 true 9,eW 11 8 true 306 [gW],dX 12 8 true 1,cO 13 8 true .lss dR eK,bX 14 dH eZ db] (bt 14 (bo [cg 15 6 2,bR 16 221 [ew],aT 17 .add (cH [40]) hP,aT 18 .add gM (cH [41]),aa 4 18]) .skip)) (bo [cg 19 6 2,bR 20 221 [gl],aa 4 20]))
def BG:List bj:=[.t 4]
theorem CH:b4 aS9 Tryz.f314 2 AA BG=true:=by kernel_rfl
def Dl:bu:=
 ar [bE 4 (aB 0)] (a6 (ar [aa 6 0,c4 7 6,bE 8 (aB 0)] (.block 0 (.loop (ar [aT 9 .lss dH dS] (a6 (bt 9 .skip (.exit 0)) (a6 (.block 1 (ar [aa 10 8,aa 5 10] (ar [aa 11 1,aa 12 0,aa 13 5,cX 14 1 eK eZ,aR 15 14,aG 16 (.fx dR [ew])] (bt 16 (bo [aa 17 5,aa 4 17]) .skip)))) (cr [aT 18 .add dH (aB 1),aa 8 18]))))))) (bo [bE 4 (aB (-1))]))
def Fm:List bj:=[.t 4]
theorem Hv:b4 aS9 Tryz.f356 2 Dl Fm=true:=by kernel_rfl
def JT:bu:=
 ar [bE 4 (aB 0)] (a6 (ar [aa 6 0,c4 7 6,bE 8 (aB 0)] (.block 0 (.loop (ar [aT 9 .lss dH dS] (a6 (bt 9 .skip (.exit 0)) (a6 (.block 1 (ar [aa 10 8,aa 5 10] (ar [aa 11 1,aa 12 0,aa 13 5,cX 14 11 eK eZ,cg 15 11 14,aG 16 (.fx dR [ew])] (bt 16 (bo [aa 17 5,aa 4 17]) .skip)))) (cr [aT 18 .add dH (aB 1),aa 8 18]))))))) (bo [bE 4 (aB (-1))]))
def PA:List bj:=[.t 4]
theorem TS:b4 aS9 Tryz.f358 2 JT PA=true:=by kernel_rfl
def JU:bu:=
 ar [bE 4 (aB 0)] (a6 (ar [aa 6 0,c4 7 6,bE 8 (aB 0)] (.block 0 (.loop (ar [aT 9 .lss dH dS] (a6 (bt 9 .skip (.exit 0)) (a6 (.block 1 (ar [aa 10 8,aa 5 10] (ar [aa 11 1,aa 12 0,aa 13 5,cX 14 6 eK eZ,cg 15 6 14,aG 16 (.fx dR [ew])] (bt 16 (bo [aa 17 5,aa 4 17]) .skip)))) (cr [aT 18 .add dH (aB 1),aa 8 18]))))))) (bo [bE 4 (aB (-1))]))
def PB:List bj:=[.t 4]
theorem TT:b4 aS9 Tryz.f359 2 JU PB=true:=by kernel_rfl
def Jn:bu:=
 ar [cq 2] (bo [aa 3 0,aT 4 .leq (.c (.int .u8 48)) ft,aa 5 4,dX 6 5 true 0,cO 7 5 true .leq eo (.c (.int .u8 57)),bX 8 en dS db,aa 2 8])
def O0:List bj:=[.t 2]
theorem Tj:b4 aS9 Tryz.f242 1 Jn O0=true:=by kernel_rfl
def Di:bu:=
 (.seq
 (.region [aG 4 (.fO (.c (.bool false)))] false)
 (.seq
 (.region [aG 5 (.fO (.t 0)),aG 6 (.fO (.t 1)),aG 7 (.call 354 [(.t 5),(.t 6)]),aG 8 (.bin .geq (.t 7) (.c (.int .i64 0))),aG 4 (.fO (.t 8))] false)
 .ret))
def Fj:List bj:=[.t 4]
theorem Hs:b4 aS9 Tryz.f293 2 Di Fj=true:=by kernel_rfl
def Dk:bu:=
 (.seq
 (.region [aG 4 (.fO (.c (.int .i64 0)))] false)
 (.seq
 (.region [aG 5 (.fO (.t 0)),aG 6 (.fO (.t 1)),aG 7 (.call 385 [(.t 5),(.t 6),(.c (.bool true))]),aG 4 (.fO (.t 7))] false)
 .ret))
def Fl:List bj:=[.t 4]
theorem Hu:b4 aS9 Tryz.f354 2 Dk Fl=true:=by kernel_rfl
def JN:bu:=
 (.seq
 (.region [aG 2 (.fO (.c (.bool false)))] false)
 (.seq
 (.region [aG 3 (.fO (.t 0)),aG 4 (.bin .lss (.t 3) (.c (.int .i32 32))),aG 5 (.fO (.t 4)),cx 6 5 false (.fO (.t 0)),cx 7 5 false (.bin .gtr (.t 6) (.c (.int .i32 126))),aG 8 (.pick (.t 5) (.c (.bool true)) (.t 7)),aG 2 (.fO (.t 8))] false)
 .ret))
def Ps:List bj:=[.t 2]
theorem TK:b4 aS9 Tryz.f320 1 JN Ps=true:=by kernel_rfl
def j0:bu:=
 ar [aG 2 (.box 48 eY),aG 3 (.box 32 iI),aG 4 (.alloc 9 [.str []]),aG 5 (.alloc 41 [.int .i64 0])] (a6 (ar [cg 13 6 2,bR 14 40 [eZ],gD 15 14,aa 16 15,cx 17 16 false (.load true 8 ft),eW 18 16 false 82 [gM],cx 19 16 false (.not gX),bX 20 hP dG gl] (bt 20 (bo [dm 1 4 (cH []),dm 1 5 (aB 1)]) .skip)) (a6 (.sk 21 83 [iL,en]) (ar [aP 22 2 2,aR 23 22,aP 24 0 3,aR 25 24,aT 26 .eql gG hZ,aP 27 2 2,aR 28 27,bR 29 84 [jn,iK,aB 10]] (ar [cg 31 6 2,cg 32 8 3,bR 33 33 [iX,ke],aa 30 33,aG 34 (.extract 0 kd),aG 35 (.extract 1 kd),aa 6 34,aa 7 35] (ar [aa 36 7,aP 37 1 2,aR 38 37,bR 39 84 [js,mq,aB 12]] (ar [cg 40 6 2,cg 41 8 3,aa 42 6,aG 43 (.build [.str [],.str [],.str [],.bn,.bn,.bn,.str [],.bn,.bn,.int .i64 0,.int .i64 0,.int .i64 0,.bn,.bn,.int .i64 0,.dI (.map none)] [(0,6,mr),(6,8,ms),(14,1,nP)]),aG 44 (.box 186 mu),aa 8 44] (ar [aa 45 8,bR 46 85 [nc]] (a6 (ar [aP 47 4 2,aR 48 47,c4 49 48,bE 50 (aB 0)] (.block 0 (.loop (ar [aT 51 .lss jQ pO] (a6 (bt 51 .skip (.exit 0)) (a6 (.block 1 (ar [aa 52 50,cX 53 4 rR jQ,cg 54 4 53,aG 10 (.alloc 84 [.str [],.str [],.bn,.bn]),aa 9 52,dm 4 10 mw] (.region [aa 55 8,cg 56 4 10,aP 57 4 2,aR 58 57,aa 59 9,aG 60 (.gL 4 mx none (some qM) none),aG 61 (.fQ [] 86 [ou,ly,rT])] true))) (cr [aT 62 .add jQ (aB 1),aa 50 62]))))))) (a6 (ar [aP 63 5 2,aR 64 63,c4 65 64,bE 66 (aB 0)] (.block 2 (.loop (ar [aT 67 .lss o6 vF] (a6 (bt 67 .skip (.exit 2)) (a6 (.block 3 (ar [cX 68 4 qO o6,cg 69 4 68,aG 12 (.alloc 148 [.str [],.str [],.bn,.bn]),dm 4 12 rV] (cr [aa 70 8,cg 71 4 12,bR 72 87 [qQ,qR]]))) (cr [aT 73 .add o6 (aB 1),aa 66 73]))))))) (bo [dm 1 4 (cH []),dm 1 5 (aB 0)]))))))))))
def Pq:List bj:=[.cell false 1 4,.cell false 1 5]
theorem TI:b4 aS9 Tryz.f31 2 j0 Pq=true:=by kernel_rfl
def jD:bu:=
 ar [aG 2 (.box 48 eY),aG 3 (.box 32 iI),bE 4 (aB 0),cq 5] (ar [aP 7 1 3,aR 8 7,aP 9 1 2,aR 10 9,bR 11 93 [dH,gW],aa 6 11] (bo [aa 12 6,aG 13 (.j4 true [eK,aB 0]),aa 14 6,aT 15 .geq fP (aB 0),aa 4 13,aa 5 15]))
def Pt:List bj:=[.t 4,.t 5]
theorem TL:b4 aS9 Tryz.f33 2 jD Pt=true:=by kernel_rfl
def wq:bu:=
 ar [aG 1 (.box 32 eY),cq 2] (bo [cg 3 8 1,bR 4 154 [ft],aa 5 4,cx 6 5 true (.load true 8 iI),eW 7 5 true 155 [eo],bX 8 en dS db,aa 9 8,bO 10 9 true 2 1,bW 11 9 true 10,eW 12 9 true 156 [dR],bX 13 fu eK db,aa 14 13,cx 15 14 true (.load true 8 iI),eW 16 14 true 157 [ew],bX 17 fP hP db,aa 18 17,cx 19 18 true (.load true 8 iI),eW 20 18 true 158 [gl],bX 21 gX ie db,aa 22 21,cx 23 22 true (.load true 8 iI),bO 24 22 true 4 1,bW 25 22 true 24,eW 26 22 true 160 [gG,hZ,db],eW 27 22 true 159 [jn,aB (-1)],cx 28 22 true (.not gN),bX 29 hY iK db,aa 30 29,cx 31 30 true (.load true 8 iI),bO 32 30 true 5 1,bW 33 30 true 32,eW 34 30 true 160 [iX,kf,dG],eW 35 30 true 159 [jP,aB (-1)],cx 36 30 true (.not na),bX 37 kd js db,aa 2 37])
def PQ:List bj:=[.t 2]
theorem Uc:b4 aS9 Tryz.f82 1 wq PQ=true:=by kernel_rfl
def Dn:bu:=
 ar [aa 6 0,gD 7 6] (bt 7 (cr [aa 8 1,aa 9 2,aG 10 (.build [.str [],.int .i64 0] [(0,1,dH),(1,1,fu)]),aG 11 (.oR 180 gW),vb (.panic dR)]) .skip)
def Fp:List bj:=[]
theorem Hx:b4 aS9 Tryz.f84 3 Dn Fp=true:=by kernel_rfl
def nX:bu:=
 ar [aa 5 0,aG 6 (.fB en),aP 7 0 6,aP 8 3 7,aR 9 8,c4 10 9,bE 11 (aB 0)] (.block 0 (.loop (ar [aT 12 .lss dR gW] (a6 (bt 12 .skip (.exit 0)) (a6 (.block 1 (ar [aa 13 11,cX 14 7 fu dR,cg 15 7 14,aG 3 (.alloc 146 [.str [],.int .i64 0,.int .i64 0,.int .i64 0,.int .i64 0,.int .i64 0,.str []]),aa 2 13,dm 7 3 ew] (ar [aG 16 (.iS 161 [ft]),aa 4 16] (a6 (.region [aa 17 0,aG 18 (.fB gM),aP 19 0 18,aP 20 3 19,aR 21 20,aa 22 2,aG 23 (.gL 7 iJ none (some hY) none),aa 24 4,aG 25 (.fQ [3] 162 [gG,gY]),gD 26 25,aP 27 0 3,aG 28 (.gq 3 false 1 gN),aG 29 (.fQ [3] 84 [jn,iK,aB 9])] true) (.region [aP 30 1 3,cg 31 3 30,jk 32 163 [iX],aa 33 32,bO 34 33 true 1 3,cx 35 33 true (.load true 3 jP),bO 36 33 true 4 3,cx 37 33 true (.load true 3 js),cx 38 33 true (.io 149 [na,lV]),bX 39 kf mq db,aP 40 0 3,aG 41 (.gq 3 false 1 mr),aG 42 (.fQ [3] 84 [nb,ms,aB 11])] true))))) (cr [aT 43 .add dR (aB 1),aa 11 43]))))))
def PR:List bj:=[]
theorem Ud:b4 aS9 Tryz.f85 1 nX PR=true:=by kernel_rfl
def tj:bu:=
 ar [aG 4 (.box 84 iI)] (ar [aa 14 0,aP 15 0 4,aR 16 15,aP 17 1 4,aR 18 17,bR 19 164 [fP,hP,gX,dG],aG 6 (.alloc 72 [.str [],.bn,.int .i64 0,.bn,.bn]),dm 5 6 gl] (ar [aG 20 (.iS 165 [iL]),aa 7 20] (a6 (.region [aa 21 2,aa 22 7,aG 23 (.fQ [4] 96 [iJ,hY]),gD 24 23,aP 25 0 4,aG 26 (.gq 4 false 1 hZ),aG 27 (.fQ [4] 84 [gY,jn,aB 9])] true) (ar [aP 28 2 4,aR 29 28,c4 30 29,aP 31 1 6,aR 32 31,c4 33 32,aT 34 .eql kd kf,aP 35 0 4,aR 36 35,bR 37 84 [jP,js,aB 11]] (ar [aa 38 0,aG 39 (.mkMap 184),aG 40 (.fB mq),aP 41 15 40,dm 1 41 nb] (a6 (ar [aP 42 2 4,aR 43 42,c4 44 43,bE 45 (aB 0)] (.block 0 (.loop (ar [aT 46 .lss nc k8] (a6 (bt 46 .skip (.exit 0)) (a6 (.block 1 (ar [aa 47 45,cX 48 1 mu nc,aR 49 48,aa 8 47,aa 9 49] (ar [aa 51 0,aa 52 9,bR 53 166 [lW,nd],aa 50 53,aG 54 (.extract 0 jQ),aG 55 (.extract 1 jQ),aG 10 (.alloc 146 [.str [],.int .i64 0,.int .i64 0,.int .i64 0,.int .i64 0,.int .i64 0,.str []]),dm 7 10 mw,aa 11 55] (ar [aa 57 0,aG 58 (.fB pP),aP 59 15 58,aR 60 59,aa 61 9,aG 62 (.hs true (.int .i64 0) rT o5),aa 56 62,aG 63 (.extract 0 ly),aG 64 (.extract 1 ly),aa 12 63,aa 13 64] (ar [aa 65 11,gD 66 65,aa 67 66,dX 68 67 true 13,cx 69 67 true (.not vG),bX 70 qP rV db,aa 71 9,bR 72 84 [qQ,qR,aB 9]] (.region [aa 73 0,aG 74 (.fB xo),aP 75 15 74,aR 76 75,aa 77 9,aP 78 1 6,aR 79 78,aa 80 8,cX 81 4 BY zz,aP 82 1 81,aP 83 0 82,aR 84 83,vb (.mQ vI vJ xt)] true)))))) (cr [aT 85 .add nc (aB 1),aa 45 85]))))))) (ar [aa 86 0,aP 87 3 4,aR 88 87,bR 89 167 [zB,FY]] (cr [aa 90 0,aG 91 (.fB QO),aP 92 15 91,dm 1 92 (.c (.dI (.map none)))]))))))))
def PS:List bj:=[]
theorem Ue:b4 aS9 Tryz.f86 3 tj PS=true:=by kernel_rfl
def tk:bu:=
 ar [aG 3 (.box 148 iI)] (ar [aa 9 0,aP 10 0 3,aR 11 10,aP 12 1 3,aR 13 12,bR 14 164 [fu,dR,eZ,db],aG 4 (.alloc 72 [.str [],.bn,.int .i64 0,.bn,.bn]),dm 5 4 fP] (ar [aP 15 2 3,aR 16 15,c4 17 16,aP 18 1 4,aR 19 18,c4 20 19,aT 21 .eql gM ie,aP 22 0 3,aR 23 22,bR 24 84 [iJ,gG,aB 11]] (a6 (ar [aP 25 2 3,aR 26 25,c4 27 26,bE 28 (aB 0)] (.block 0 (.loop (ar [aT 29 .lss iK gN] (a6 (bt 29 .skip (.exit 0)) (a6 (.block 1 (ar [aa 30 28,cX 31 6 jn iK,cg 32 6 31,aG 6 (.alloc 80 [.int .i64 0,.str [],.str [],.str [],.int .i64 0,.bn]),aa 5 30,dm 6 6 ke] (.region [aa 33 0,aG 34 (.gq 6 true 6 eo),aG 35 (.fQ [6,4,3] 168 [kf,jP]),aP 36 1 4,aG 37 (.gq 4 false 1 js),aa 38 5,cX 39 4 lV mq,aP 40 1 39,aP 41 0 40,aG 42 (.qz false 1 ms),aT 43 .eql na nP,aP 44 0 3,aG 45 (.gq 3 false 1 k8),aG 46 (.fQ [3] 84 [mu,nc,aB 11])] true))) (cr [aT 47 .add iK (aB 1),aa 28 47]))))))) (ar [aP 48 3 3,aR 49 48,c4 50 49,bE 51 (aB 0)] (.block 2 (.loop (ar [aT 52 .lss lW jQ] (a6 (bt 52 .skip (.exit 2)) (a6 (.block 3 (ar [cX 53 6 pO lW,cg 54 6 53,aG 8 (.alloc 80 [.int .i64 0,.str [],.str [],.str [],.int .i64 0,.bn]),dm 6 8 mw] (cr [aa 55 0,cg 56 6 8,bR 57 168 [ou,ly],aT 58 .eql pP (aB 1),bR 59 84 [mx,cH [119,104,101,114,101],aB 11]]))) (cr [aT 60 .add lW (aB 1),aa 51 60]))))))))))
def PT:List bj:=[]
theorem Uf:b4 aS9 Tryz.f87 2 tk PT=true:=by kernel_rfl
def II:bu:=
 ar [aG 1 (.box 89 eY),cq 2] (a6 (ar [aP 3 0 1,aR 4 3] (.block 0 (ar [aT 6 .eql iL (aB 1),aa 5 6] (bt 5 (bo [aP 7 1 1,aR 8 7,aT 9 .geq dH (aB (-1000)),aa 10 9,bO 11 10 true 1 1,bW 12 10 true 11,cO 13 10 true .leq eK (aB 1000),bX 14 gW eZ db,aa 15 14,bO 16 15 true 2 1,bW 17 15 true 16,cO 18 15 true .eql gM (cH []),bX 19 ew gX db,aa 2 19]) (ar [aT 21 .eql iL (aB 2),aa 20 21] (bt 20 (bo [aP 22 1 1,aR 23 22,aT 24 .eql gG (aB 0),aa 25 24,bO 26 25 true 2 1,bW 27 25 true 26,cx 28 25 true (.kV gN),cO 29 25 true .leq iK (aB 40),bX 30 hZ kc db,aa 31 30,bO 32 31 true 2 1,bW 33 31 true 32,eW 34 31 true 228 [kf],bX 35 iX jP db,aa 2 35]) .skip)))))) (bo [cq 2]))
def Og:List bj:=[.t 2]
theorem SB:b4 aS9 Tryz.f127 1 II Og=true:=by kernel_rfl
def IJ:bu:=
 ar [bE 4 (aB 0)] (a6 (ar [aa 6 0,c4 7 6,bE 8 (aB 0)] (.block 0 (.loop (ar [aT 9 .lss dH dS] (a6 (bt 9 .skip (.exit 0)) (a6 (.block 1 (ar [aa 10 8,aa 5 10] (ar [aa 11 1,aa 12 0,aa 13 5,cX 14 5 eK eZ,cg 15 5 14,aG 16 (.fx dR [ew])] (bt 16 (bo [aa 17 5,aa 4 17]) .skip)))) (cr [aT 18 .add dH (aB 1),aa 8 18]))))))) (bo [bE 4 (aB (-1))]))
def Oh:List bj:=[.t 4]
theorem SC:b4 aS9 Tryz.f139 2 IJ Oh=true:=by kernel_rfl
def IM:bu:=
 ar [aG 2 (.box 87 eY),aG 3 (.box 89 iI),cq 4] (ar [cg 6 3 3,bR 7 257 [eo],aa 5 7] (bo [cg 8 3 2,bR 9 163 [dH],aa 10 9,cx 11 10 true (.load true 3 ft),eW 12 10 true 127 [dR],bX 13 gW eK db,aa 14 13,bO 15 14 true 0 2,bW 16 14 true 15,bO 17 14 true 0 3,bW 18 14 true 17,cO 19 14 true .eql hP gX,bX 20 fP gl db,aa 21 20,dX 22 21 true 5,bO 23 21 true 1 2,bW 24 21 true 23,cO 25 21 true .geq hY gY,bX 26 iJ hZ db,aa 27 26,dX 28 27 true 5,bO 29 27 true 2 2,bW 30 27 true 29,cO 31 27 true .leq iK kd,bX 32 gN iX db,aa 4 32]))
def Ol:List bj:=[.t 4]
theorem SF:b4 aS9 Tryz.f149 2 IM Ol=true:=by kernel_rfl
def IN:bu:=
 ar [aG 1 (.box 32 eY),cq 2] (a6 (ar [aP 5 0 1,aR 6 5,bR 7 109 [eo],gD 8 7,aa 9 8,bO 10 9 false 1 1,bW 11 9 false 10,cx 12 9 false (.len dR),cO 13 9 false .lss eK (aB 1),bX 14 fu dG eZ,aa 15 14,bO 16 15 false 1 1,bW 17 15 false 16,cx 18 15 false (.len gM),cO 19 15 false .gtr gX (aB 6),bX 20 ew dG gl] (bt 20 (bo [cq 2]) .skip)) (a6 (ar [aP 21 1 1,aR 22 21,c4 23 22,bE 24 (aB 0)] (.block 0 (.loop (ar [aT 25 .lss gY gG] (a6 (bt 25 .skip (.exit 0)) (a6 (.block 1 (ar [aa 26 24,cX 27 1 hY gY,aR 28 27,aa 3 26,aa 4 28] (ar [aa 29 4,bR 30 109 [kc],gD 31 30,aa 32 31,bO 33 32 false 1 1,bW 34 32 false 33,dX 35 32 false 3,cx 36 32 false (.gL 1 jP none (some na) none),dX 37 32 false 4,eW 38 32 false 198 [js,lV],bX 39 ke dG mq] (bt 39 (bo [cq 2]) .skip)))) (cr [aT 40 .add gY (aB 1),aa 24 40]))))))) (bo [ol 2])))
def Om:List bj:=[.t 2]
theorem SG:b4 aS9 Tryz.f154 1 IN Om=true:=by kernel_rfl
def IP:bu:=
 ar [aG 1 (.box 32 eY),cq 2] (a6 (ar [aP 6 3 1,aR 7 6,aT 8 .lss dS (aB 1),aa 9 8,bO 10 9 false 3 1,bW 11 9 false 10,cO 12 9 false .gtr dR (aB 200),bX 13 fu dG eK,aa 14 13,bO 15 14 false 4 1,bW 16 14 false 15,bO 17 14 false 5 1,bW 18 14 false 17,cx 19 14 false (.j4 false [hP,gX]),cO 20 14 false .lss gl (aB 0),bX 21 fP dG ie,aa 22 21,bO 23 22 false 4 1,bW 24 22 false 23,bO 25 22 false 5 1,bW 26 22 false 25,cx 27 22 false (.j4 true [gY,jn]),bO 28 22 false 3 1,bW 29 22 false 28,cO 30 22 false .geq gN kc,bX 31 hY dG kd,aa 32 31,bO 33 32 false 6 1,bW 34 32 false 33,cx 35 32 false (.len jP),cO 36 32 false .gtr na (aB 400),bX 37 ke dG js] (bt 37 (bo [cq 2]) .skip)) (a6 (ar [aP 38 6 1,aR 39 38,c4 40 39,bE 41 (aB 0)] (.block 0 (.loop (ar [aT 42 .lss ms mr] (a6 (bt 42 .skip (.exit 0)) (a6 (.block 1 (ar [cX 43 6 nb ms,cg 44 6 43,aG 4 (.alloc 76 [.int .i64 0,.int .i64 0,.int .i64 0,.int .i64 0,.int .i64 0,.bool false]),dm 6 4 k8] (ar [aP 45 1 4,cg 46 3 45,aG 5 (.alloc 74 [.int .i64 0,.int .i64 0,.int .i64 0]),dm 3 5 mv] (ar [aP 47 0 4,aR 48 47,aP 49 4 4,aR 50 49,aP 51 0 5,aR 52 51,aP 53 1 5,aR 54 53,aP 55 2 5,aR 56 55,aG 57 (.j4 false [rR,jQ,nd,mw,ly]),aT 58 .lss pP (aB 0),aa 59 58,bO 60 59 false 0 4,bW 61 59 false 60,bO 62 59 false 4 4,bW 63 59 false 62,cx 64 59 false (.j4 true [o5,qN]),bO 65 59 false 3 1,bW 66 59 false 65,cO 67 59 false .geq qO o6,bX 68 qM dG qP,aa 69 68,bO 70 69 false 0 5,bW 71 69 false 70,bO 72 69 false 1 5,bW 73 69 false 72,cx 74 69 false (.j4 true [qR,xo]),bO 75 69 false 1 1,bW 76 69 false 75,cx 77 69 false (.len vI),cO 78 69 false .geq xp vJ,bX 79 rV dG FX,aa 80 79,bO 81 80 false 0 5,bW 82 80 false 81,bO 83 80 false 1 5,bW 84 80 false 83,cO 85 80 false .eql BZ xt,bX 86 zz dG QM,aa 87 86,bO 88 87 false 2 5,bW 89 87 false 88,bO 90 87 false 2 1,bW 91 87 false 90,cx 92 87 false (.len FZ),cO 93 87 false .geq B0 F0,bX 94 QN dG B1] (bt 94 (bo [cq 2]) .skip))))) (cr [aT 95 .add ms (aB 1),aa 41 95]))))))) (bo [ol 2])))
def On:List bj:=[.t 2]
theorem SH:b4 aS9 Tryz.f155 1 IP On=true:=by kernel_rfl
def IQ:bu:=
 ar [cq 2] (a6 (ar [aa 5 0,c4 6 5,aT 7 .eql eo (aB 0)] (bt 7 (bo [ol 2]) .skip)) (ar [aa 9 0,bR 10 258 [fu,aB 0],aa 8 10,aG 11 (.extract 0 dH),aG 12 (.extract 1 dH),aa 3 11,aa 4 12] (bo [aa 13 4,aT 14 .eql eZ (aB 0),aa 2 14])))
def Oo:List bj:=[.t 2]
theorem SI:b4 aS9 Tryz.f156 1 IQ Oo=true:=by kernel_rfl
def IR:bu:=
 ar [aG 1 (.box 32 eY),cq 2] (a6 (ar [aP 7 6 1,aR 8 7,c4 9 8,bE 10 (aB 0)] (.block 0 (.loop (ar [aT 11 .lss gW fu] (a6 (bt 11 .skip (.exit 0)) (a6 (.block 1 (ar [aa 12 10,cX 13 6 dH gW,cg 14 6 13,aG 4 (.alloc 76 [.int .i64 0,.int .i64 0,.int .i64 0,.int .i64 0,.int .i64 0,.bool false]),aa 3 12,dm 6 4 fP] (a6 (ar [aP 15 0 4,aR 16 15,aP 17 5 1,aR 18 17,aT 19 .eql hP gX,aa 20 19,bO 21 20 false 5 4,bW 22 20 false 21,dX 23 20 false 22,bO 24 23 true 0 4,bW 25 23 true 24,bO 26 23 true 4 1,bW 27 23 true 26,cO 28 23 true .eql hZ gN,cx 29 20 false (.pick gG iK db),bX 30 ie dG kc] (bt 30 (bo [cq 2]) .skip)) (ar [aP 31 6 1,aR 32 31,c4 33 32,bE 34 (aB 0)] (.block 2 (.loop (ar [aT 35 .lss jP kf] (a6 (bt 35 .skip (.exit 2)) (a6 (.block 3 (ar [aa 36 34,cX 37 6 ke jP,cg 38 6 37,aG 6 (.alloc 76 [.int .i64 0,.int .i64 0,.int .i64 0,.int .i64 0,.int .i64 0,.bool false]),aa 5 36,dm 6 6 mq] (a6 (ar [aa 39 3,aa 40 5,aT 41 .neq nb mr,aa 42 41,bO 43 42 true 0 4,bW 44 42 true 43,bO 45 42 true 0 6,bW 46 42 true 45,cO 47 42 true .eql k8 mv,bX 48 nP rQ db,aa 49 48,bO 50 49 true 1 4,cx 51 49 true (.load true 3 jQ),bO 52 49 true 1 6,cx 53 49 true (.load true 3 nd),cx 54 49 true (.ny false 74 [.i .i64,.i .i64,.i .i64] lW rS),dX 55 49 true 54,bO 56 55 false 1 4,bO 57 55 false 0 56,bW 58 55 false 57,bO 59 55 false 1 6,bO 60 55 false 0 59,bW 61 55 false 60,cO 62 55 false .neq mx o5,cx 63 49 true (.pick ou dG rU),dX 64 49 true 63,bO 65 64 false 5 4,bW 66 64 false 65,cx 67 49 true (.pick qO dG o6),bX 68 pO qP db] (bt 68 (bo [cq 2]) .skip)) (ar [aP 69 5 4,aR 70 69,aa 71 70,bO 72 71 true 4 6,bW 73 71 true 72,bO 74 71 true 0 4,bW 75 71 true 74,cO 76 71 true .eql xo xq,bX 77 qR vI db,aa 78 77,bO 79 78 true 1 4,bO 80 78 true 0 79,bW 81 78 true 80,bO 82 78 true 1 6,bO 83 78 true 0 82,bW 84 78 true 83,cO 85 78 true .neq zA xt,dX 86 78 true 85,bO 87 86 false 1 4,bO 88 86 false 2 87,bW 89 86 false 88,bO 90 86 false 1 6,bO 91 86 false 2 90,bW 92 86 false 91,cO 93 86 false .neq B0 F0,cx 94 78 true (.pick zB dG B1),bX 95 FX F1 db] (bt 95 (bo [cq 2]) .skip))))) (cr [aT 96 .add jP (aB 1),aa 34 96])))))))))) (cr [aT 97 .add gW (aB 1),aa 10 97]))))))) (bo [ol 2]))
def Oq:List bj:=[.t 2]
theorem SJ:b4 aS9 Tryz.f157 1 IR Oq=true:=by kernel_rfl
def IS:bu:=
 ar [aG 1 (.box 32 eY),cq 2] (ar [bE 3 (aB (-1))] (a6 (ar [aP 6 7 1,aR 7 6,c4 8 7,bE 9 (aB 0)] (.block 0 (.loop (ar [aT 10 .lss fu dH] (a6 (bt 10 .skip (.exit 0)) (a6 (.block 1 (ar [cX 11 3 dS fu,cg 12 3 11,aG 5 (.alloc 342 [.int .i64 0,.int .i64 0,.int .i64 0]),dm 3 5 eK] (a6 (a6 (.region [aP 13 0 5,aR 14 13,aa 15 3,aT 16 .leq fP ew,aa 17 16,bO 18 17 false 1 5,bW 19 17 false 18,cO 20 17 false .lss gl (aB 1),bX 21 gM dG ie,aa 22 21,bO 23 22 false 1 5,bW 24 22 false 23,cO 25 22 false .gtr gY (aB 1000),bX 26 hY dG hZ,aa 27 26,bO 28 27 false 2 5,bW 29 27 false 28,cO 30 27 false .lss kc (aB 0),bX 31 gN dG kd,aa 32 31,bO 33 32 false 2 5,bW 34 32 false 33,bO 35 32 false 6 1,bW 36 32 false 35,cx 37 32 false (.len js),cO 38 32 false .geq jP lV,bX 39 ke dG mq,aa 40 39,bO 41 40 false 6 1,bW 42 40 false 41,bO 43 40 false 2 5,bW 44 40 false 43,cx 45 40 false (.gS 6 nP k8),bO 46 40 false 0 45,bW 47 40 false 46,bO 48 40 false 0 5,bW 49 40 false 48,cO 50 40 false .neq rQ pO,bX 51 mr dG jQ,aa 52 51,bO 53 52 false 6 1,bW 54 52 false 53,bO 55 52 false 2 5,bW 56 52 false 55,cx 57 52 false (.gS 6 mw ly),bO 58 52 false 5 57,bW 59 52 false 58,bX 60 nd dG qM] true) (bt 60 (bo [cq 2]) .skip)) (cr [aP 61 0 5,aR 62 61,aa 3 62])))) (cr [aT 63 .add fu (aB 1),aa 9 63]))))))) (bo [ol 2])))
def Ot:List bj:=[.t 2]
theorem SK:b4 aS9 Tryz.f158 1 IS Ot=true:=by kernel_rfl
def IT:bu:=
 ar [cq 4] (bo [aa 5 0,aa 6 1,bR 7 259 [en,eo],aT 8 .geq dS (aB 0),aa 4 8])
def Ou:List bj:=[.t 4]
theorem SL:b4 aS9 Tryz.f159 2 IT Ou=true:=by kernel_rfl
def IU:bu:=
 ar [aG 3 (.box 32 eY),bE 6 (.c .bn)] (ar [aG 13 (.eu 3 1 1 [.int .i64 0] [(0,aB (-1))]),aP 14 3 3,aR 15 14,bR 16 260 [eZ,ew],aa 7 16] (ar [aa 17 7,aa 18 1,aG 19 (.hE 1 gM gX),dm 1 19 (aB 0)] (a6 (ar [aa 20 1,aG 21 (.lF 3 1 1 [.int .i64 0] [(0,ie)]),aa 8 21] (.block 0 (.loop (a6 (ar [aa 22 8,aG 23 (.hV hY),aT 24 .gtr gG (aB 0)] (bt 24 .skip (.exit 0))) (a6 (.block 1 (ar [aP 27 6 3,aR 28 27,c4 29 28,bE 30 (aB 0)] (.block 2 (.loop (ar [aT 31 .lss kd kc] (a6 (bt 31 .skip (.exit 2)) (a6 (.block 3 (ar [cX 32 6 iK kd,cg 33 6 32,aG 10 (.alloc 76 [.int .i64 0,.int .i64 0,.int .i64 0,.int .i64 0,.int .i64 0,.bool false]),dm 6 10 kf] (a6 (.region [aP 34 0 10,aR 35 34,aP 36 4 10,aR 37 36,aa 11 35,aa 12 37] true) (a6 (ar [aa 38 2] (bt 38 (cr [aa 39 12,aa 40 11,aa 11 39,aa 12 40]) .skip)) (ar [aa 41 11,aa 42 8,aG 43 (.hE 1 nP (aB 0)),aG 44 (.ib false 1 mu),aT 45 .eql ms k8,aa 46 45,dX 47 46 true 7,dX 48 46 true 12,cx 49 46 true (.hE 1 rQ rR),cx 50 46 true (.ib false 1 pO),cO 51 46 true .lss jQ (aB 0),bX 52 mv lW db] (bt 52 (ar [aa 53 7,aa 54 12,aa 55 7,aa 56 11,aG 57 (.hE 1 ou ly),aG 58 (.ib false 1 pP),aT 59 .add mx (aB 1),aG 60 (.hE 1 rS mw),dm 1 60 qM] (cr [aa 61 8,aa 62 12,aG 63 (.eu 3 1 1 [.int .i64 0] [(0,rU)]),aG 64 (.lD 3 1 8 o5 qN),aa 8 64])) .skip)))))) (cr [aT 65 .add kd (aB 1),aa 30 65])))))))) (cr [aa 25 8,aG 26 (.mo 1 hZ (some (aB 1)) none),aa 8 26])))))) (bo [aa 66 7,aa 6 66]))))
def Ov:List bj:=[.t 6]
theorem SM:b4 aS9 Tryz.f160 3 IU Ov=true:=by kernel_rfl
def IV:bu:=
 ar [aG 2 (.box 146 eY),cq 3] (bo [aP 4 0 2,aR 5 4,aP 6 0 1,aR 7 6,aT 8 .eql en dS,aa 3 8])
def Ow:List bj:=[.t 3]
theorem SN:b4 aS9 Tryz.f161 1 IV Ow=true:=by kernel_rfl
def IW:bu:=
 ar [aG 1 (.box 87 eY),cq 2] (ar [bE 3 (aB 0),bE 4 (aB 0)] (a6 (ar [aP 5 0 1,aR 6 5] (.block 0 (ar [aT 8 .eql eo (aB 1),aa 7 8] (bt 7 (cr [bE 3 (aB (-1000)),bE 4 (aB 1000)]) (ar [aT 10 .eql eo (aB 2),aa 9 10] (bt 9 (cr [bE 3 (aB 0),bE 4 (aB 40)]) (bo [cq 2]))))))) (bo [aa 11 3,aP 12 1 1,aR 13 12,aT 14 .leq dR eZ,aa 15 14,bO 16 15 true 1 1,bW 17 15 true 16,bO 18 15 true 2 1,bW 19 15 true 18,cO 20 15 true .leq gM gl,bX 21 ew ie db,aa 22 21,bO 23 22 true 2 1,bW 24 22 true 23,dX 25 22 true 4,cO 26 22 true .leq gY hZ,bX 27 hY jn db,aa 2 27])))
def Ox:List bj:=[.t 2]
theorem SO:b4 aS9 Tryz.f163 1 IW Ox=true:=by kernel_rfl
def IX:bu:=
 ar [aG 8 (.alloc 72 [.str [],.bn,.int .i64 0,.bn,.bn])] (ar [aa 12 0,aa 13 1,bR 14 262 [eK,eZ],aa 9 14] (ar [aa 15 9,aT 16 .geq ew (aB 0),aa 17 1,bR 18 84 [hP,gM,aB 10]] (ar [aa 19 0,aG 20 (.fB gl),aP 21 6 20,aP 22 1 21,aR 23 22,aa 24 2,bR 25 93 [gG,gY],aa 10 25] (ar [aa 26 10,aT 27 .geq jn (aB 0),aa 28 2,bR 29 84 [gN,iK,aB 12]] (ar [aa 30 0,aG 31 (.fB kd),aP 32 14 31,aR 33 32,aa 34 10,aa 35 9,aG 36 (.build [.int .i64 0,.int .i64 0,.int .i64 0] [(0,1,kf),(1,1,jP),(2,1,na)]),aG 11 (.alloc 74 [.int .i64 0,.int .i64 0,.int .i64 0]),dm 3 11 js] (a6 (ar [aa 37 3] (bt 37 (.region [aa 38 10,aa 39 0,aG 40 (.fB nb),aP 41 14 40,aG 42 (.gq 0 false 1 ms),aP 43 0 11,vb (.gF 11 [0] 1 mu mq),aP 44 1 11,vb (.gF 11 [0] 1 k8 nP)] true) .skip)) (ar [aa 45 0,aG 46 (.fB nc),aP 47 6 46,aP 48 6 47,aR 49 48,aG 50 (.iS 264 [dR]),bR 51 263 [pO,jQ],aa 52 1,bR 53 84 [lW,nd,aB 8]] (bo [aa 54 0,aG 55 (.fB mw),aP 56 6 55,aP 57 2 56,aR 58 57,aa 59 9,cX 60 5 mx qM,cg 61 5 60,dm 5 8 o5]))))))))
def Oy:List bj:=[.cell true 5 8]
theorem SP:b4 aS9 Tryz.f164 4 IX Oy=true:=by kernel_rfl
def IY:bu:=
 ar [aG 2 (.box 84 eY),cq 3] (bo [aP 4 0 2,aR 5 4,aP 6 0 1,aR 7 6,aT 8 .eql en dS,aa 9 8,bO 10 9 true 1 2,bW 11 9 true 10,bO 12 9 true 1 1,bW 13 9 true 12,cO 14 9 true .eql dR eZ,bX 15 fu fP db,aa 3 15])
def Oz:List bj:=[.t 3]
theorem SQ:b4 aS9 Tryz.f165 1 IY Oz=true:=by kernel_rfl
def Dd:bu:=
 ar [aG 3 (.box 9 iI),aG 4 (.alloc 146 [.str [],.int .i64 0,.int .i64 0,.int .i64 0,.int .i64 0,.int .i64 0,.str []]),cq 5] (ar [aa 7 0,aG 8 (.fB dS),aP 9 0 8,aP 10 3 9,aR 11 10,aG 12 (.iS 265 [ft]),bR 13 261 [dR,eK],aa 6 13] (a6 (ar [aa 14 6,aT 15 .lss fP (aB 0)] (bt 15 (bo [aG 16 (.build [.str [],.int .i64 0,.int .i64 0,.int .i64 0,.int .i64 0,.int .i64 0,.str []] []),dm 7 4 hP,cq 5]) .skip)) (bo [aa 17 0,aG 18 (.fB gM),aP 19 0 18,aP 20 3 19,aR 21 20,aa 22 6,cX 23 7 iJ hY,cg 24 7 23,dm 7 4 gY,ol 5])))
def Ff:List bj:=[.cell true 7 4,.t 5]
theorem Hp:b4 aS9 Tryz.f166 2 Dd Ff=true:=by kernel_rfl
def x6:bu:=
 ar [aa 6 1,c4 7 6,bE 8 (aB 0)] (.block 0 (.loop (ar [aT 9 .lss dH dS] (a6 (bt 9 .skip (.exit 0)) (a6 (.block 1 (ar [cX 10 11 eo dH,cg 11 11 10,aG 5 (.alloc 82 [.int .i64 0,.str [],.int .i64 0,.str [],.str [],.str [],.int .i64 0,.bn,.int .i64 0,.bn,.bn]),dm 11 5 dR] (a6 (ar [aP 12 0 5,aR 13 12] (.block 2 (ar [aT 15 .eql eZ (aB 1),aa 14 15] (bt 14 (ar [aa 16 0,cg 17 11 5,bR 18 266 [hP,gM]] (.exit 1)) (ar [aT 20 .eql eZ (aB 2),aa 19 20] (bt 19 (cr [aa 21 0,aP 22 2 5,cg 23 6 22,bR 24 168 [iJ,gG],aT 25 .eql gY (aB 1),bR 26 84 [hZ,cH [105,102],aB 11]]) (ar [aT 28 .eql eZ (aB 3),aa 27 28] (bt 27 (cr [aa 29 0,aP 30 2 5,cg 31 6 30,bR 32 168 [kc,iX],aT 33 .eql ke (aB 1),bR 34 84 [kf,cH [119,104,105,108,101],aB 11]]) .skip)))))))) (ar [aa 35 0,aP 36 9 5,aR 37 36,bR 38 167 [na,lV]] (cr [aa 39 0,aP 40 10 5,aR 41 40,bR 42 167 [nb,ms]]))))) (cr [aT 43 .add dH (aB 1),aa 8 43]))))))
def zi:List bj:=[]
theorem Ah:b4 aS9 Tryz.f167 2 x6 zi=true:=by kernel_rfl
def De:bu:=
 ar [aG 3 (.box 80 iI),bE 4 (aB 0)] (ar [aG 5 (.alloc 60 [.bn])] (a6 (ar [aP 9 5 3,aR 10 9,c4 11 10,bE 12 (aB 0)] (.block 0 (.loop (ar [aT 13 .lss eK dR] (a6 (bt 13 .skip (.exit 0)) (a6 (.block 1 (ar [cX 14 6 gW eK,cg 15 6 14,aG 7 (.alloc 80 [.int .i64 0,.str [],.str [],.str [],.int .i64 0,.bn]),dm 6 7 ew] (.region [aG 16 (.gq 5 false 1 en),aa 17 0,aG 18 (.gq 7 true 6 dS),aG 19 (.fQ [5,7] 168 [gM,gX]),aG 20 (.eu 3 1 1 [.int .i64 0] [(0,gl)]),aG 21 (.append 3 1 8 hP ie),dm 1 5 iJ] true))) (cr [aT 22 .add eK (aB 1),aa 12 22]))))))) (ar [aG 23 (.iS 267 [en]),aa 8 23] (a6 (ar [aP 24 0 3,aR 25 24] (.block 2 (ar [aT 27 .eql hZ (aB 2),aa 26 27] (bt 26 (bo [bE 4 (aB 2)]) (ar [aT 29 .eql hZ (aB 3),aa 28 29] (bt 28 (bo [aa 30 0,aP 31 2 3,aR 32 31,bR 33 270 [kd,ke],aa 4 33]) (ar [aT 35 .eql hZ (aB 4),aa 34 35] (bt 34 (cr [aa 36 8,aG 37 (.fx js [aB 2]),bR 38 84 [lV,cH [108,101,110],aB 11]]) (ar [aT 40 .eql hZ (aB 5),aa 39 40] (bt 39 (.region [aa 41 8,aG 42 (.kn [3] ms [aB 1]),aP 43 1 3,aG 44 (.gq 3 false 1 mu),aG 45 (.fQ [3] 84 [nP,k8,aB 11])] true) (ar [aT 47 .eql hZ (aB 6),aa 46 47] (bt 46 (a6 (ar [aP 48 1 3,aR 49 48,aT 50 .neq pO (cH [43]),aa 51 50,bO 52 51 true 1 3,bW 53 51 true 52,cO 54 51 true .neq rS (cH [61,61]),bX 55 lW mw db,aa 56 55,bO 57 56 true 1 3,bW 58 56 true 57,cO 59 56 true .neq mx (cH [33,61]),bX 60 ly qM db] (bt 60 (a6 (.region [aa 61 8,aG 62 (.kn [3] o5 [aB 1]),aP 63 1 3,aG 64 (.gq 3 false 1 qN),aG 65 (.fQ [3] 84 [rU,qO,aB 11])] true) (.exit 2)) .skip)) (a6 (.region [aa 66 8,aG 67 (.gq 5 false 1 en),cX 68 1 qP (aB 0),aR 69 68,aG 70 (.kn [3] o6 [rV]),aP 71 1 3,aG 72 (.gq 3 false 1 qR),aG 73 (.fQ [3] 84 [qQ,vH,aB 11])] true) (ar [aP 74 1 3,aR 75 74,aT 76 .eql xq (cH [43])] (bt 76 (bo [aG 77 (.gq 5 false 1 en),cX 78 1 vJ (aB 0),aR 79 78,aa 4 79]) .skip)))) .skip)))))))))))) (bo [bE 4 (aB 1)])))))
def Fg:List bj:=[.t 4]
theorem Hq:b4 aS9 Tryz.f168 2 De Fg=true:=by kernel_rfl
def Jm:bu:=
 ar [cq 2] (bo [aa 3 0,bR 4 293 [ft,.c (.fn 320 [])],gD 5 4,aa 2 5])
def OZ:List bj:=[.t 2]
theorem Ti:b4 aS9 Tryz.f228 1 Jm OZ=true:=by kernel_rfl
def Jo:bu:=
 ar [aG 1 (.box 89 eY),bE 2 (aB 0)] (a6 (ar [aP 3 0 1,aR 4 3] (.block 0 (ar [aT 6 .eql iL (aB 1),aa 5 6] (bt 5 (bo [aP 7 1 1,aR 8 7,aa 2 8]) (ar [aT 10 .eql iL (aB 2),aa 9 10] (bt 9 (bo [aP 11 2 1,aR 12 11,aG 13 (.kV eK),aa 2 13]) .skip)))))) (bo [bE 2 (aB 0)]))
def O1:List bj:=[.t 2]
theorem Tk:b4 aS9 Tryz.f257 1 Jo O1=true:=by kernel_rfl
def Jp:bu:=
 ar [bE 4 (.c .bn),bE 5 (aB 0)] (a6 (ar [aa 6 1,aT 7 .lss eo (aB 0),aa 8 7,dX 9 8 false 1,dX 10 8 false 0,cx 11 8 false (.len gW),cO 12 8 false .geq fu dR,bX 13 dH dG eK,aa 14 13,dX 15 14 false 0,eW 16 14 false 338 [ew],cx 17 14 false (.not hP),bX 18 fP dG gM] (bt 18 (bo [bE 4 (.c .bn),bE 5 (aB 1)]) .skip)) (bo [aa 19 0,aa 20 1,cX 21 5 gl ie,cg 22 5 21,bR 23 339 [hY],aa 4 23,bE 5 (aB 0)]))
def O2:List bj:=[.t 4,.t 5]
theorem Tl:b4 aS9 Tryz.f258 2 Jp O2=true:=by kernel_rfl
def Jq:bu:=
 ar [bE 4 (aB 0)] (a6 (ar [aa 6 0,c4 7 6,bE 8 (aB 0)] (.block 0 (.loop (ar [aT 9 .lss dH dS] (a6 (bt 9 .skip (.exit 0)) (a6 (.block 1 (ar [aa 10 8,aa 5 10] (ar [aa 11 1,aa 12 0,aa 13 5,cX 14 1 eK eZ,aR 15 14,aT 16 .eql dR ew] (bt 16 (bo [aa 17 5,aa 4 17]) .skip)))) (cr [aT 18 .add dH (aB 1),aa 8 18]))))))) (bo [bE 4 (aB (-1))]))
def O3:List bj:=[.t 4]
theorem Tm:b4 aS9 Tryz.f259 2 Jq O3=true:=by kernel_rfl
def Jr:bu:=
 ar [aG 3 (.box 9 iI),bE 4 (aB 0)] (bo [aa 5 0,aG 6 (.fB en),aP 7 6 6,aP 8 2 7,aR 9 8,aG 10 (.iS 341 [ft]),bR 11 139 [fu,gW],aa 4 11])
def O4:List bj:=[.t 4]
theorem Tn:b4 aS9 Tryz.f262 2 Jr O4=true:=by kernel_rfl
def Js:bu:=
 ar [cq 4] (bo [aa 5 0,aa 6 1,bR 7 342 [en,eo],aT 8 .geq dS (aB 0),aa 4 8])
def O5:List bj:=[.t 4]
theorem To:b4 aS9 Tryz.f263 2 Js O5=true:=by kernel_rfl
def Jt:bu:=
 ar [aG 2 (.box 76 eY),cq 3] (bo [aP 4 1 2,cg 5 3 4,cg 6 3 1,aG 7 (.ny false 74 [.i .i64,.i .i64,.i .i64] en eo),aa 3 7])
def O6:List bj:=[.t 3]
theorem Tp:b4 aS9 Tryz.f264 1 Jt O6=true:=by kernel_rfl
def Ju:bu:=
 ar [aG 2 (.box 146 eY),cq 3] (bo [aP 4 0 2,aR 5 4,aR 6 1,aT 7 .eql en eo,aa 3 7])
def O7:List bj:=[.t 3]
theorem Tq:b4 aS9 Tryz.f265 1 Ju O7=true:=by kernel_rfl
def Ay:bu:=
 ar [aG 3 (.box 82 iI)] (a6 (.region [aa 9 0,aG 10 (.fB fu),aP 11 15 10,aR 12 11,aP 13 1 3,aR 14 13,aG 15 (.hs true (.int .i64 0) eK fP),aa 8 15,aG 16 (.extract 0 dH),aG 17 (.extract 1 dH),aa 4 16,aa 5 17] true) (ar [aa 19 0,aP 20 1 3,aR 21 20,bR 22 166 [gl,iJ],aa 18 22,aG 23 (.extract 0 gX),aG 24 (.extract 1 gX),aG 6 (.alloc 146 [.str [],.int .i64 0,.int .i64 0,.int .i64 0,.int .i64 0,.int .i64 0,.str []]),dm 7 6 gG,aa 7 24] (ar [aa 25 5,aa 26 25,dX 27 26 false 7,bX 28 jn dG gN,aP 29 1 3,aR 30 29,bR 31 84 [iK,kd,aB 10]] (ar [aa 32 5,gD 33 32,aP 34 1 3,aR 35 34,bR 36 84 [kf,na,aB 11]] (.region [aa 37 0,aP 38 2 3,aG 39 (.gq 3 true 6 mq),aG 40 (.fQ [3,6] 168 [lV,nb]),aP 41 1 6,aP 42 0 41,aG 43 (.gq 6 false 1 nP),aT 44 .eql mr mu,aP 45 1 3,aG 46 (.gq 3 false 1 nc),aG 47 (.fQ [3] 84 [k8,mv,aB 11])] true)))))
def BD:List bj:=[]
theorem CE:b4 aS9 Tryz.f266 2 Ay BD=true:=by kernel_rfl
def Jv:bu:=
 ar [aG 2 (.box 3 eY),cq 3] (bo [aR 4 1,aG 5 (.iS 269 [zy]),bR 6 268 [iL,en],gD 7 6,aa 3 7])
def O8:List bj:=[.t 3]
theorem Tr:b4 aS9 Tryz.f267 1 Jv O8=true:=by kernel_rfl
def Jw:bu:=
 ar [cq 4] (bo [aa 5 0,aa 6 1,bR 7 343 [en,eo],aT 8 .geq dS (aB 0),aa 4 8])
def O9:List bj:=[.t 4]
theorem Ts:b4 aS9 Tryz.f268 2 Jw O9=true:=by kernel_rfl
def Jx:bu:=
 ar [cq 3] (bo [aa 4 0,aR 5 1,aT 6 .neq iL en,aa 3 6])
def Pa:List bj:=[.t 3]
theorem Tt:b4 aS9 Tryz.f269 1 Jx Pa=true:=by kernel_rfl
def rk:bu:=
 ar [bE 4 (aB 0)] (a6 (ar [aa 10 0,aG 11 (.fB gW),aP 12 15 11,aR 13 12,aa 14 1,aG 15 (.hs true (.int .i64 0) eZ fP),aa 9 15,aG 16 (.extract 0 fu),aG 17 (.extract 1 fu),aa 5 16,aa 6 17] (ar [aa 18 6] (bt 18 (bo [aa 19 5,aa 4 19]) .skip))) (ar [aa 21 0,aa 22 1,bR 23 166 [iJ,hY],aa 20 23,aG 24 (.extract 0 ie),aG 25 (.extract 1 ie),aG 7 (.alloc 146 [.str [],.int .i64 0,.int .i64 0,.int .i64 0,.int .i64 0,.int .i64 0,.str []]),dm 7 7 gY,aa 8 25] (ar [aa 26 8,aa 27 1,bR 28 84 [jn,gN,aB 10]] (bo [aP 29 1 7,aP 30 0 29,aR 31 30,aa 4 31]))))
def BE:List bj:=[.t 4]
theorem CF:b4 aS9 Tryz.f270 2 rk BE=true:=by kernel_rfl
def JO:bu:=
 ar [cq 2] (a6 (ar [aa 9 0,c4 10 9,aT 11 .gtr gW (aB 40)] (bt 11 (bo [cq 2]) .skip)) (ar [aa 12 0,bR 13 374 [eK],aa 3 13] (a6 (ar [aa 14 3,c4 15 14,aT 16 .gtr ew (aB 24)] (bt 16 (bo [cq 2]) .skip)) (ar [bE 4 (aB 0)] (a6 (ar [aa 17 0,c4 18 17,bE 19 (aB 0)] (.block 0 (.loop (ar [aT 20 .lss gl gX] (a6 (bt 20 .skip (.exit 0)) (a6 (.block 1 (ar [aa 21 19,cX 22 5 gM gl,cg 23 5 22,aG 6 (.alloc 72 [.str [],.bn,.int .i64 0,.bn,.bn]),aa 5 21,dm 5 6 gG] (a6 (ar [aP 24 0 6,aR 25 24,bR 26 205 [hZ],gD 27 26,aa 28 27,bO 29 28 false 1 6,bW 30 28 false 29,cx 31 28 false (.len kd),cO 32 28 false .gtr iX (aB 4),bX 33 iK dG ke,aa 34 33,bO 35 34 false 2 6,bW 36 34 false 35,dX 37 34 false 4,cO 38 34 false .neq js lV,bX 39 jP dG mq,aa 40 39,dX 41 40 false 0,dX 42 40 false 5,cx 43 40 false (.gL 5 ms none (some nP) none),cx 44 40 false (.iS 376 [eo]),eW 45 40 false 375 [mu,k8],bX 46 mr dG nc] (bt 46 (bo [cq 2]) .skip)) (ar [aa 47 4,aP 48 1 6,aR 49 48,c4 50 49,aT 51 .add rQ jQ,aa 4 51] (a6 (ar [aP 52 1 6,aR 53 52,c4 54 53,bE 55 (aB 0)] (.block 2 (.loop (ar [aT 56 .lss ou mw] (a6 (bt 56 .skip (.exit 2)) (a6 (.block 3 (ar [aa 57 55,cX 58 4 rS ou,cg 59 4 58,aG 8 (.alloc 131 [.str [],.int .i64 0,.int .i64 0,.int .i64 0]),aa 7 57,dm 4 8 qM] (ar [aP 60 0 8,aR 61 60,bR 62 109 [o5],gD 63 62,aa 64 63,bO 65 64 false 1 8,cx 66 64 false (.load true 3 vF),eW 67 64 false 377 [o6],cx 68 64 false (.not qP),bX 69 qO dG vG,aa 70 69,bO 71 70 false 1 6,bW 72 70 false 71,dX 73 70 false 7,cx 74 70 false (.gL 4 vH none (some xo) none),cx 75 70 false (.iS 379 [dH]),eW 76 70 false 378 [xp,xq],bX 77 qQ dG vI] (bt 77 (bo [cq 2]) .skip)))) (cr [aT 78 .add ou (aB 1),aa 55 78]))))))) (ar [aP 79 3 6,cg 80 2 79,aa 81 3,bR 82 380 [zz,zA],gD 83 82] (bt 83 (bo [cq 2]) .skip))))))) (cr [aT 84 .add gl (aB 1),aa 19 84]))))))) (bo [ol 2]))))))
def Pu:List bj:=[.t 2]
theorem TM:b4 aS9 Tryz.f338 1 JO Pu=true:=by kernel_rfl
def JP:bu:=
 ar [aG 1 (.box 72 eY),bE 2 (.c .bn)] (ar [bE 3 (.c .bn)] (a6 (ar [aP 8 1 1,aR 9 8,c4 10 9,bE 11 (aB 0)] (.block 0 (.loop (ar [aT 12 .lss dR gW] (a6 (bt 12 .skip (.exit 0)) (a6 (.block 1 (ar [aa 13 11,cX 14 4 fu dR,cg 15 4 14,aG 5 (.alloc 131 [.str [],.int .i64 0,.int .i64 0,.int .i64 0]),aa 4 13,dm 4 5 ew] (cr [aa 16 3,aP 17 2 1,aR 18 17,aa 19 4,aT 20 .add gX gl,aP 21 1 5,aP 22 2 21,aR 23 22,aG 24 (.build [.int .i64 0,.int .i64 0,.int .i64 0] [(0,1,ie),(1,1,aB (-1)),(2,1,gG)]),aP 25 2 1,aR 26 25,aa 27 4,aT 28 .add jn gN,aP 29 1 5,aP 30 1 29,aR 31 30,aG 32 (.neg iX),aG 33 (.build [.int .i64 0,.int .i64 0,.int .i64 0] [(0,1,aB (-1)),(1,1,iK),(2,1,ke)]),aG 34 (.eu 438 3 2 [.int .i64 0,.int .i64 0,.int .i64 0] [(0,gY),(1,kf)]),aG 35 (.append 438 3 24 hP jP),aa 3 35]))) (cr [aT 36 .add dR (aB 1),aa 11 36]))))))) (ar [aa 37 3,aP 38 3 1,aP 39 0 38,aR 40 39,aG 41 (.append 438 3 24 lV mr),aa 3 41] (a6 (ar [aP 42 3 1,aP 43 1 42,aR 44 43,c4 45 44,bE 46 (aB 0)] (.block 2 (.loop (ar [aT 47 .lss mv nc] (a6 (bt 47 .skip (.exit 2)) (a6 (.block 3 (ar [cX 48 2 k8 mv,cg 49 2 48,aG 7 (.alloc 439 [.int .i64 0,.int .i64 0]),dm 2 7 pO] (cr [aa 50 3,aG 51 (.me 2 1 dS (aB 0)),aR 52 51,aG 53 (.me 2 1 dS (aB 1)),aR 54 53,aG 55 (.build [.int .i64 0,.int .i64 0,.int .i64 0] [(0,1,nd),(1,1,mw)]),aG 56 (.me 2 1 dS (aB 1)),aR 57 56,aG 58 (.me 2 1 dS (aB 0)),aR 59 58,aG 60 (.build [.int .i64 0,.int .i64 0,.int .i64 0] [(0,1,pP),(1,1,qM)]),aG 61 (.eu 438 3 2 [.int .i64 0,.int .i64 0,.int .i64 0] [(0,ou),(1,rT)]),aG 62 (.append 438 3 24 jQ o5),aa 3 62]))) (cr [aT 63 .add mv (aB 1),aa 46 63]))))))) (bo [aa 64 3,aa 2 64])))))
def Pv:List bj:=[.t 2]
theorem TN:b4 aS9 Tryz.f339 1 JP Pv=true:=by kernel_rfl
def JQ:bu:=
 ar [aG 2 (.box 72 eY),cq 3] (bo [aP 4 0 2,aR 5 4,aR 6 1,aT 7 .eql en eo,aa 3 7])
def Pw:List bj:=[.t 3]
theorem TO:b4 aS9 Tryz.f341 1 JQ Pw=true:=by kernel_rfl
def JR:bu:=
 ar [bE 4 (aB 0)] (a6 (ar [aa 6 0,c4 7 6,bE 8 (aB 0)] (.block 0 (.loop (ar [aT 9 .lss dH dS] (a6 (bt 9 .skip (.exit 0)) (a6 (.block 1 (ar [aa 10 8,aa 5 10] (ar [aa 11 1,aa 12 0,aa 13 5,cX 14 6 eK eZ,cg 15 6 14,aG 16 (.fx dR [ew])] (bt 16 (bo [aa 17 5,aa 4 17]) .skip)))) (cr [aT 18 .add dH (aB 1),aa 8 18]))))))) (bo [bE 4 (aB (-1))]))
def Px:List bj:=[.t 4]
theorem TP:b4 aS9 Tryz.f342 2 JR Px=true:=by kernel_rfl
def JS:bu:=
 ar [bE 4 (aB 0)] (a6 (ar [aa 6 0,c4 7 6,bE 8 (aB 0)] (.block 0 (.loop (ar [aT 9 .lss dH dS] (a6 (bt 9 .skip (.exit 0)) (a6 (.block 1 (ar [aa 10 8,aa 5 10] (ar [aa 11 1,aa 12 0,aa 13 5,cX 14 1 eK eZ,aR 15 14,aG 16 (.fx dR [ew])] (bt 16 (bo [aa 17 5,aa 4 17]) .skip)))) (cr [aT 18 .add dH (aB 1),aa 8 18]))))))) (bo [bE 4 (aB (-1))]))
def Py:List bj:=[.t 4]
theorem TQ:b4 aS9 Tryz.f343 2 JS Py=true:=by kernel_rfl
def JW:bu:=
 ar [bE 2 (.c .bn)] (ar [bE 3 (.c .bn)] (a6 (ar [aa 6 0,c4 7 6,bE 8 (aB 0)] (.block 0 (.loop (ar [aT 9 .lss dH dS] (a6 (bt 9 .skip (.exit 0)) (a6 (.block 1 (ar [cX 10 5 eo dH,cg 11 5 10,aG 5 (.alloc 72 [.str [],.bn,.int .i64 0,.bn,.bn]),dm 5 5 dR] (cr [aa 12 3,aP 13 1 5,aR 14 13,aG 15 (.append 131 4 40 eK fP),aa 3 15]))) (cr [aT 16 .add dH (aB 1),aa 8 16]))))))) (bo [aa 17 3,aa 2 17])))
def PD:List bj:=[.t 2]
theorem TV:b4 aS9 Tryz.f374 1 JW PD=true:=by kernel_rfl
def JX:bu:=
 ar [cq 4] (bo [aa 5 0,aa 6 1,bR 7 139 [en,eo],aT 8 .geq dS (aB 0),aa 4 8])
def PE:List bj:=[.t 4]
theorem TW:b4 aS9 Tryz.f375 2 JX PE=true:=by kernel_rfl
def JY:bu:=
 ar [aG 2 (.box 72 eY),cq 3] (bo [aP 4 0 2,aR 5 4,aP 6 0 1,aR 7 6,aT 8 .eql en dS,aa 3 8])
def PF:List bj:=[.t 3]
theorem TX:b4 aS9 Tryz.f376 1 JY PF=true:=by kernel_rfl
def JZ:bu:=
 ar [aG 1 (.box 87 eY),cq 2] (a6 (ar [aP 3 0 1,aR 4 3] (.block 0 (ar [aT 6 .eql iL (aB 1),aa 5 6] (bt 5 (bo [aP 7 1 1,aR 8 7,aT 9 .geq dH (aB (-1000)),aa 10 9,bO 11 10 true 1 1,bW 12 10 true 11,bO 13 10 true 2 1,bW 14 10 true 13,cO 15 10 true .leq eK fP,bX 16 gW ew db,aa 17 16,bO 18 17 true 2 1,bW 19 17 true 18,cO 20 17 true .leq gl (aB 1000),bX 21 gM ie db,aa 2 21]) (ar [aT 23 .eql iL (aB 2),aa 22 23] (bt 22 (bo [aP 24 1 1,aR 25 24,aT 26 .geq hZ (aB 0),aa 27 26,bO 28 27 true 1 1,bW 29 27 true 28,bO 30 27 true 2 1,bW 31 27 true 30,cO 32 27 true .leq kc iX,bX 33 gN ke db,aa 34 33,bO 35 34 true 2 1,bW 36 34 true 35,cO 37 34 true .leq js (aB 40),bX 38 jP lV db,aa 2 38]) .skip)))))) (bo [cq 2]))
def PG:List bj:=[.t 2]
theorem TY:b4 aS9 Tryz.f377 1 JZ PG=true:=by kernel_rfl
def J0:bu:=
 ar [cq 4] (bo [aa 5 0,aa 6 1,bR 7 400 [en,eo],aT 8 .geq dS (aB 0),aa 4 8])
def PH:List bj:=[.t 4]
theorem TZ:b4 aS9 Tryz.f378 2 J0 PH=true:=by kernel_rfl
def J1:bu:=
 ar [aG 2 (.box 131 eY),cq 3] (bo [aP 4 0 2,aR 5 4,aP 6 0 1,aR 7 6,aT 8 .eql en dS,aa 3 8])
def PI:List bj:=[.t 3]
theorem T0:b4 aS9 Tryz.f379 1 J1 PI=true:=by kernel_rfl
def J3:bu:=
 ar [aG 2 (.box 70 eY),cq 4] (a6 (ar [aP 11 0 2,aR 12 11,c4 13 12,aT 14 .gtr eZ (aB 20),aa 15 14,bO 16 15 false 1 2,bW 17 15 false 16,cx 18 15 false (.len gM),cO 19 15 false .gtr gX (aB 20),bX 20 ew dG gl] (bt 20 (bo [cq 4]) .skip)) (a6 (ar [aP 21 0 2,aR 22 21,c4 23 22,bE 24 (aB 0)] (.block 0 (.loop (ar [aT 25 .lss gY gG] (a6 (bt 25 .skip (.exit 0)) (a6 (.block 1 (ar [cX 26 3 hY gY,cg 27 3 26,aG 6 (.alloc 438 [.int .i64 0,.int .i64 0,.int .i64 0]),dm 3 6 gN] (ar [aP 28 0 6,aR 29 28,aP 30 1 6,aR 31 30,aG 32 (.j4 false [kc,iX]),aT 33 .lss ke (aB (-1)),aa 34 33,bO 35 34 false 0 6,bW 36 34 false 35,bO 37 34 false 1 6,bW 38 34 false 37,cx 39 34 false (.j4 true [js,mq]),dX 40 34 false 1,cx 41 34 false (.len mr),cO 42 34 false .geq nb ms,bX 43 jP dG nP,aa 44 43,bO 45 44 false 2 6,bW 46 44 false 45,cO 47 44 false .lss mv (aB (-20000)),bX 48 k8 dG rQ,aa 49 48,bO 50 49 false 2 6,bW 51 49 false 50,cO 52 49 false .gtr lW (aB 20000),bX 53 pO dG nd] (bt 53 (bo [cq 4]) .skip)))) (cr [aT 54 .add gY (aB 1),aa 24 54]))))))) (a6 (ar [aP 55 1 2,aR 56 55,c4 57 56,bE 58 (aB 0)] (.block 2 (.loop (ar [aT 59 .lss mx pP] (a6 (bt 59 .skip (.exit 2)) (a6 (.block 3 (ar [cX 60 2 ly mx,cg 61 2 60,aG 8 (.alloc 439 [.int .i64 0,.int .i64 0]),dm 2 8 o5] (ar [cg 62 2 8,bE 63 (aB 0)] (.block 4 (.loop (ar [aT 64 .lss qN (aB 2)] (a6 (bt 64 .skip (.exit 4)) (a6 (.block 5 (ar [aG 65 (.iD false 2 1 rU qN),aa 10 65] (ar [aa 66 10,aT 67 .lss o6 (aB 0),aa 68 67,dX 69 68 false 10,dX 70 68 false 1,cx 71 68 false (.len qQ),cO 72 68 false .geq rV qR,bX 73 vG dG vH,aa 74 73,dX 75 74 false 1,dX 76 74 false 10,cx 77 74 false (.gS 4 xq vI),bO 78 74 false 1 77,bO 79 74 false 0 78,bW 80 74 false 79,cO 81 74 false .neq zz (aB 2),bX 82 xp dG zA] (bt 82 (bo [cq 4]) .skip)))) (cr [aT 83 .add qN (aB 1),aa 63 83]))))))))) (cr [aT 84 .add mx (aB 1),aa 58 84]))))))) (bo [ol 4]))))
def PK:List bj:=[.t 4]
theorem T4:b4 aS9 Tryz.f380 2 J3 PK=true:=by kernel_rfl
def J5:bu:=
 ar [bE 4 (aB 0)] (a6 (ar [aa 6 0,c4 7 6,bE 8 (aB 0)] (.block 0 (.loop (ar [aT 9 .lss dH dS] (a6 (bt 9 .skip (.exit 0)) (a6 (.block 1 (ar [aa 10 8,aa 5 10] (ar [aa 11 1,aa 12 0,aa 13 5,cX 14 4 eK eZ,cg 15 4 14,aG 16 (.fx dR [ew])] (bt 16 (bo [aa 17 5,aa 4 17]) .skip)))) (cr [aT 18 .add dH (aB 1),aa 8 18]))))))) (bo [bE 4 (aB (-1))]))
def r400:List bj:=[.t 4]
theorem T6:b4 aS9 Tryz.f400 2 J5 r400=true:=by kernel_rfl
end Go.aX.T.N
