/- Part of a proof; own work. -/
import Derived.Test.YtlemhelnmidpfaaGreatDoorProg
import Derived.Test.YtlemhelnmidpfaaGreatDoorRS3
set_option linter.unusedVariables false
set_option linter.unusedSimpArgs false
open Bool renaming and_eq_true→bb6,and_self→bc0
open List renaming length_map→bb5,length_append→bb7,length_cons→bb9,length_nil→bc4,length_drop→bl7,length_take→be9,set_cons_zero→bh5,set_cons_succ→bi2,map_cons→bd4,mem_cons_of_mem→bh4,flatten_cons→bd0,drop_length_add_append→bp2,take_append_of_le_length→bn8,take_of_length_le→bg8,drop_left→bp0
open Nat renaming blt→bf8,ble→be1,add_mul→bf3,add_comm→bl1,le_of_ble_eq_true→bh6,reduceBEq→bl3,reduceAdd→bl4
open Option renaming map_some→bf0
open Go.Proofs.Tryz renaming prog→bb4
namespace Go.ba
open Go
section
variable {P:Program}{aQ:List bf}{cL t0:Nat}{k:List fs}{Q:Out→aN→Prop}{env:Env}{c c1:aN}{v:I}
theorem wv.mono {f:FuncId}{gx:List I}{x:I}{c:aN}{yg uS:aN→Prop}(h:wv P f gx x c yg) (bu: ∀cJ,yg cJ→uS cJ):wv P f gx x c uS:=fun H0 s yq cN H U aa aD=>
  tf.mono (h H0 s yq cN H U aa aD) fun dt ⟨bR,c1,g1,g2,g3⟩=>⟨bR,c1,g1,bu c1 g2,g3⟩
theorem ar.Ym {d:Nat}{f:FuncId}{cap:List aJ}(Qp:I→aN→Prop) (kt:Env) (BN: ∀p∈kt,env.get p.1=p.2) (ac5: ∀p∈kt,d≠p.1) (ac7: ∀p∈kt,zB p.1 k=true)
    (aT:c6 P f=true) (hid: ∀gx:List I,gx.length=cap.length→Az P f gx) (av:sR k=true)
    (hp: ∀x c1,Qp x c1→wv P f (cap.map (bl env)) x c1 fun cb=> ∃v,ov aQ kt cb.H=some v∧Q (.ret v) cb)
    (h:ar P aQ c.bP c.bh k (fun o c=>match o with| .ret v=>Q (.ret v) c| .ey x=>Qp x c) ((d,.fn f (cap.map (bl env)))::env) c):ar P aQ cL t0 (.c (.sv d f cap)::k) Q env c:=fun H0 ez s bb H R a1 aL ao he ac ag=>by
  have E2:hP s ((d,.fn f (cap.map (bl env)))::env) ((d,.fn f (cap.map (aJ.aI bb)))::bb):=he.put (by simp only[aM]; exact⟨_,rfl,nR he cap⟩) (some d)
  have ab1:hP s kt (tmpsOf bb kt):=fun j=>by
    rcases Hd bb kt j with e|⟨_,e⟩
    ·rw[e]
     exact hP.x4 (NX kt BN) he j
    ·rw[e]
     exact aM.eD _ _
  refine .sv (fun o aC=>match o with
    | .ret x=>R (.ret x) aC
    | .ey cN=> ∃bR x c1,bx.eH ez bR∧bx.eH s bR∧Qp x c1∧aM bR x cN∧eR H0 bR c1 aC) (tmpsOf bb kt) (fun j=> ?_) (fun p hp=> ?_) (fun p hp=> ?_) (FN av) aT (hid _ (bb5 _)) (fun v aC h=>h) (fun cN aC ab=> ?_) ?_
  ·rcases Hd bb kt j with e|⟨e,_⟩<;>rw[e]
   ·exact c5.refl _
   ·exact c5.eD _
  ·obtain⟨q,bu,rfl⟩:=List.mem_map.1 hp
   exact FP (ac7 q bu)
  ·obtain⟨q,bu,rfl⟩:=List.mem_map.1 hp
   exact ac5 q bu
  ·obtain⟨bR,x,c1,kh,ci,cM,dE,gU⟩:=ab
   refine tf.mono (hp x c1 cM H0 bR _ cN aC (bk.mono ci _ _ (nR he cap)) dE gU) fun dt ⟨s2,cb,g1,⟨v,g2,g3⟩,g4⟩=> ?_
   obtain⟨bD,U,aa⟩:=DO (ab1.mono (ci.trans g1)) g4 g2
   exact⟨bD,U,ag s2 (.ret v) (.ret bD) cb dt (kh.trans g1) g3 aa g4⟩
  ·rw[FO (s1:=s) av]
   refine h H0 s s _ H _ ac.bP.symm ac.bh.symm (bx.eH.refl s) E2 ac fun bR o o' c1 aC ci cM dE gU=> ?_
   cases o with
   |ret x=>
    cases o' with
    |ret cN=>exact ag bR (.ret x) (.ret cN) c1 aC (ao.trans ci) cM dE gU
    |ey cN=>cases dE
   |ey x=>
    cases o' with
    |ret cN=>cases dE
    |ey cN=>exact⟨bR,x,c1,ao.trans ci,ci,cM,dE,gU⟩
end
section
variable {P:Program}{env:Env}{c:aN}{anns:List I}{l:List bK}{K:Env→aN→Prop}{Rp:I→aN→Prop}{f:FuncId}{args:List aJ}{dS:List I}
theorem D.HN {d:Option Nat}(s:bx){fP:eJ}{fY:eK}{n q:Nat}{x:I}(h:bg P f dS (aN.of n q fP fY) (rj x)) (av:Rp x (c.kk s [] []))
    (an:(s.b.length==n&&(s.t.length==q&&(nodupB s.b&&(nodupB s.t&&(s.b.all (fun x=>bf8 x c.bP)&&(s.t.all (fun x=>bf8 x c.bh)&&(dw n q dS&&(eA n q fP&&(eB n q fY&&x.du n q)))))))))=true:=by simp (disch:=omega) only[go_sem,simprocAttr]<;>rfl) (dD:nw c.H.aY s fP:=by repeat first|exact trivial|refine⟨rfl,?_⟩) (c4:nx c.H.tok s fY:=by repeat first|exact trivial|refine⟨rfl,?_⟩) (aS:args.map (bl env)=e7 s dS:=by simp (disch:=omega) only[go_sem,simprocAttr]<;>rfl) (ac:x.eP s=x:=by rfl):al P anns (⟨d,none,.call f args⟩::l) env c K Rp:=by
  simp only[bb6,beq_iff_eq]at an
  obtain⟨c1,cb,eW,gE,ls,me,nP,o3,mK,mc⟩:=an
  refine al.yv rfl (bg.vg s h c1 cb (by rw[eW,gE,ls,me]; rfl) dD c4 (by rw[nP,o3,mK]; rfl) mc ac rfl) aS ?_ ?_
  ·rintro v c1 ⟨e,_⟩
   cases e
  ·rintro v c1 ⟨e,rfl⟩
   cases e
   exact av
end
end Go.ba
namespace Go.ba
open Go
structure oV (A:Prop):Prop where
  a:A
theorem ak {A B:Prop}(av:A) (h:oV A→B:=by intro av; (repeat' first|refine D.S ?_|refine D.fg true true ?_|refine al.nil ?_|refine ar.c9 ?_|refine D.W ?_|refine D.Z ?_|refine D.X ‹_› ?_|refine D.ja ‹_› ?_|refine D.jb ‹_› ?_); exact av.a):B:=h ⟨av⟩
theorem b0 {A B:Prop}(av:A) (h:oV A→B:=by intro av; (repeat' first|refine D.S ?_|refine al.nil ?_|refine D.W ?_|refine D.Z ?_|refine D.X ‹_› ?_|refine D.ja ‹_› ?_|refine D.jb ‹_› ?_); exact av.a):B:=h ⟨av⟩
theorem iZ {A B:Prop}(av:A) (h:oV A→B:=by intro av; ((repeat refine D.fg true true ?_); (refine ar.c9 ?_); (repeat' first|refine D.S ?_|refine al.nil ?_|refine D.W ?_|refine D.Z ?_|refine D.X ‹_› ?_|refine D.ja ‹_› ?_|refine D.jb ‹_› ?_)); exact av.a):B:=h ⟨av⟩
theorem bt {A B:Prop}(av:A) (h:oV A→B:=by intro av; (repeat' first|(apply al.s rfl; (·simp (disch:=omega) only[go_sem,simprocAttr,ae]<;>with_reducible rfl))|(apply ar.s true true; (·simp (disch:=omega) only[go_sem,simprocAttr,ae]<;>with_reducible rfl))|apply al.nil|(refine ar.c9 ?_)|(apply al.ft; (·simp (disch:=omega) only[go_sem,simprocAttr,ae]<;>with_reducible rfl))|(apply al.fu; (·rfl); (·simp (disch:=omega) only[go_sem,simprocAttr,ae]<;>with_reducible rfl))|((first|apply al.fw|apply al.fx|apply al.fy); (·simp (disch:=omega) only[go_sem,simprocAttr,ae]<;>with_reducible rfl); (·simp (disch:=omega) only[go_sem,simprocAttr,ae]<;>with_reducible rfl); (·assumption); (·omega))); exact av.a):B:=h ⟨av⟩
theorem wz {A B:Prop}(av:A) (h:oV A→B:=by intro av; (repeat' first|(apply al.s rfl; (·simp (disch:=omega) only[go_sem,simprocAttr,ae]<;>with_reducible rfl))|(apply ar.s true false; (·simp (disch:=omega) only[go_sem,simprocAttr,ae]<;>with_reducible rfl))|apply al.nil|(refine ar.c9 ?_)|(apply al.ft; (·simp (disch:=omega) only[go_sem,simprocAttr,ae]<;>with_reducible rfl))|(apply al.fu; (·rfl); (·simp (disch:=omega) only[go_sem,simprocAttr,ae]<;>with_reducible rfl))|((first|apply al.fw|apply al.fx|apply al.fy); (·simp (disch:=omega) only[go_sem,simprocAttr,ae]<;>with_reducible rfl); (·simp (disch:=omega) only[go_sem,simprocAttr,ae]<;>with_reducible rfl); (·assumption); (·omega))); exact av.a):B:=h ⟨av⟩
theorem th {A B:Prop}(av:A) (h:oV A→B:=by intro av; (repeat' first|(apply al.s rfl; (·simp (disch:=omega) only[go_sem,simprocAttr,ae]<;>with_reducible rfl))|apply al.nil|(apply al.ft; (·simp (disch:=omega) only[go_sem,simprocAttr,ae]<;>with_reducible rfl))|(apply al.fu; (·rfl); (·simp (disch:=omega) only[go_sem,simprocAttr,ae]<;>with_reducible rfl))|((first|apply al.fw|apply al.fx|apply al.fy); (·simp (disch:=omega) only[go_sem,simprocAttr,ae]<;>with_reducible rfl); (·simp (disch:=omega) only[go_sem,simprocAttr,ae]<;>with_reducible rfl); (·assumption); (·omega))); exact av.a):B:=h ⟨av⟩
theorem gN {A B:Prop}(av:A) (h:oV A→B:=by intro av; ((repeat (apply ar.s true true; (·simp (disch:=omega) only[go_sem,simprocAttr,ae]<;>with_reducible rfl))); (refine ar.c9 ?_); (repeat' first|(apply al.s rfl; (·simp (disch:=omega) only[go_sem,simprocAttr,ae]<;>with_reducible rfl))|apply al.nil|(apply al.ft; (·simp (disch:=omega) only[go_sem,simprocAttr,ae]<;>with_reducible rfl))|(apply al.fu; (·rfl); (·simp (disch:=omega) only[go_sem,simprocAttr,ae]<;>with_reducible rfl))|((first|apply al.fw|apply al.fx|apply al.fy); (·simp (disch:=omega) only[go_sem,simprocAttr,ae]<;>with_reducible rfl); (·simp (disch:=omega) only[go_sem,simprocAttr,ae]<;>with_reducible rfl); (·assumption); (·omega)))); exact av.a):B:=h ⟨av⟩
theorem x9 {A B:Prop}(av:A) (h:oV A→B:=by intro av; (repeat (apply ar.s true true; (·simp (disch:=omega) only[go_sem,simprocAttr,ae]<;>with_reducible rfl))); exact av.a):B:=h ⟨av⟩
theorem dQ {A B:Prop}(av:A) (h:oV A→B:=by intro av; (repeat' first|(apply al.s rfl; (·simp (disch:=omega) only[go_sem,simprocAttr,ae,z2]<;>with_reducible rfl))|(apply ar.s true true; (·simp (disch:=omega) only[go_sem,simprocAttr,ae,z2]<;>with_reducible rfl))|apply al.nil|(refine ar.c9 ?_)|(apply al.ft; (·simp (disch:=omega) only[go_sem,simprocAttr,ae,z2]<;>with_reducible rfl))|(apply al.fu; (·rfl); (·simp (disch:=omega) only[go_sem,simprocAttr,ae,z2]<;>with_reducible rfl))|((first|apply al.fw|apply al.fx|apply al.fy); (·simp (disch:=omega) only[go_sem,simprocAttr,ae,z2]<;>with_reducible rfl); (·simp (disch:=omega) only[go_sem,simprocAttr,ae,z2]<;>with_reducible rfl); (·assumption); (·omega))); exact av.a):B:=h ⟨av⟩
theorem HO {A B:Prop}(av:A) (h:oV A→B:=by intro av; (repeat' first|(apply al.s rfl; (·simp (disch:=omega) only[go_sem,simprocAttr,ae,z2]<;>with_reducible rfl))|apply al.nil|(apply al.ft; (·simp (disch:=omega) only[go_sem,simprocAttr,ae,z2]<;>with_reducible rfl))|(apply al.fu; (·rfl); (·simp (disch:=omega) only[go_sem,simprocAttr,ae,z2]<;>with_reducible rfl))|((first|apply al.fw|apply al.fx|apply al.fy); (·simp (disch:=omega) only[go_sem,simprocAttr,ae,z2]<;>with_reducible rfl); (·simp (disch:=omega) only[go_sem,simprocAttr,ae,z2]<;>with_reducible rfl); (·assumption); (·omega))); exact av.a):B:=h ⟨av⟩
theorem fj {A B:Prop}(av:A) (h:oV A→B:=by intro av; ((repeat (apply ar.s true true; (·simp (disch:=omega) only[go_sem,simprocAttr,ae,z2]<;>with_reducible rfl))); (refine ar.c9 ?_); (repeat' first|(apply al.s rfl; (·simp (disch:=omega) only[go_sem,simprocAttr,ae,z2]<;>with_reducible rfl))|apply al.nil|(apply al.ft; (·simp (disch:=omega) only[go_sem,simprocAttr,ae,z2]<;>with_reducible rfl))|(apply al.fu; (·rfl); (·simp (disch:=omega) only[go_sem,simprocAttr,ae,z2]<;>with_reducible rfl))|((first|apply al.fw|apply al.fx|apply al.fy); (·simp (disch:=omega) only[go_sem,simprocAttr,ae,z2]<;>with_reducible rfl); (·simp (disch:=omega) only[go_sem,simprocAttr,ae,z2]<;>with_reducible rfl); (·assumption); (·omega)))); exact av.a):B:=h ⟨av⟩
theorem ya {A B:Prop}(av:A) (h:oV A→B:=by intro av; (repeat (apply ar.s true true; (·simp (disch:=omega) only[go_sem,simprocAttr,ae,z2]<;>with_reducible rfl))); exact av.a):B:=h ⟨av⟩
theorem ep {A B:Prop}(av:A) (h:oV A→B:=by intro av; (repeat' first|(apply al.s rfl; (·simp (disch:=omega) only[go_sem,simprocAttr,ae,z2,z3]<;>with_reducible rfl))|(apply ar.s true true; (·simp (disch:=omega) only[go_sem,simprocAttr,ae,z2,z3]<;>with_reducible rfl))|apply al.nil|(refine ar.c9 ?_)|(apply al.ft; (·simp (disch:=omega) only[go_sem,simprocAttr,ae,z2,z3]<;>with_reducible rfl))|(apply al.fu; (·rfl); (·simp (disch:=omega) only[go_sem,simprocAttr,ae,z2,z3]<;>with_reducible rfl))|((first|apply al.fw|apply al.fx|apply al.fy); (·simp (disch:=omega) only[go_sem,simprocAttr,ae,z2,z3]<;>with_reducible rfl); (·simp (disch:=omega) only[go_sem,simprocAttr,ae,z2,z3]<;>with_reducible rfl); (·assumption); (·omega))); exact av.a):B:=h ⟨av⟩
section
variable {P:Program}{env:Env}{c:aN}{anns:List I}{l:List bK}{K:Env→aN→Prop}{Rp:I→aN→Prop}{x y i b3 af:aJ}{dG FB:IntKind}{z sd:Int}{size:Nat}{rows new:List (List I)}{row:List I}{a b:List UInt8}
theorem D.bU {d:Nat}(h:al P anns l ((d,.str (a++b))::env) c K Rp) (ab:bl env x= .str a:=by simp (disch:=omega) only[go_sem,simprocAttr]<;>with_reducible rfl) (a8:bl env y= .str b:=by simp (disch:=omega) only[go_sem,simprocAttr]<;>with_reducible rfl) (hb:a.length+b.length≤maxLen:=by simp only[bb7,bb9,bc4,maxLen]; omega):al P anns (⟨some d,none,.bin .add x y⟩::l) env c K Rp:=al.Xg ab a8 hb h
theorem D.iE {T bytes t d:Nat}(h:al P anns l ((d,.own t size (rows++new))::env) (c.ck t (.bY T size (rows.length+new.length))) K Rp) (ab:bl env x= .own t size rows:=by simp (disch:=omega) only[go_sem,simprocAttr]<;>with_reducible rfl) (aL:c.H.tok t=some (.bY T size rows.length):=by simp (disch:=omega) only[go_sem,simprocAttr]<;>with_reducible rfl) (a8:rowsOf size (bl env y)=some new:=by simp only[rowsOf]<;>simp (disch:=omega) only[go_sem,simprocAttr]<;>with_reducible rfl) (hb:(rows.length+new.length)*bytes≤140737488355328:=by first|omega|(simp only[bb5,bl7,be9,bb7,bc4,bb9,maxLen]<;>omega)) (hm:rows.length+new.length≤maxLen:=by first|omega|(simp only[bb5,bl7,be9,bb7,bc4,bb9,maxLen]<;>omega)):al P anns (⟨some d,none,.append T size bytes x y⟩::l) env c K Rp:=al.Ik ab aL a8 hb hm h
end
end Go.ba
namespace Go.ba
open Go
inductive ri:List (List I)→List (List I)→Prop
  |nil:ri [] []
  |cons {a b:List I}{az ca:List (List I)}(h:dZ a b) (t:ri az ca):ri (a::az) (b::ca)
theorem dZ.len: ∀ {az ca:List I},dZ az ca→az.length=ca.length
  |[],_,h=>by simp only[dZ]at h; subst h; rfl
  |a::az,_,h=>by
   simp only[dZ]at h
   obtain⟨b,ca,rfl,_,aa⟩:=h
   simp only[bb9,dZ.len aa]
theorem Is {m:Mem}: ∀ {az ca:List I}{b o:Nat},dZ az ca→eS m az b o→eS m ca b o
  |[],_,b,o,h,k=>by simp only[dZ]at h; subst h; exact k
  |a::az,_,b,o,h,k=>by
   simp only[dZ]at h
   obtain⟨x,xs,rfl,U,aa⟩:=h
   simp only[eS]at k ⊢
   obtain⟨⟨v,ap,ay,b1,dC⟩,gF⟩:=k
   exact⟨⟨v,ap,ay,b1,U m v dC⟩,Is aa gF⟩
theorem ri.len: ∀ {az ca:List (List I)},ri az ca→az.length=ca.length
  | _,_,.nil=>rfl
  | _,_,.cons _ t=>by simp only[bb9,ri.len t]
theorem ri.Sw {m:Mem}{size:Nat}: ∀ {az ca:List (List I)}{b o:Nat},ri az ca→dK m size az b o→dK m size ca b o
  | _,_,b,o,.nil,k=>k
  | _,_,b,o,.cons h t,k=>by
    simp only[dK]at k ⊢
    exact⟨by rw[←h.len]; exact k.1,Is h k.2.1,ri.Sw t k.2.2⟩
theorem Dl {n:Nat}{az ca:List (List I)}(h:ri az ca):c5 (.aq n az) (.aq n ca):=fun m v k=>by
  simp only[aP]at k ⊢
  rw[←h.len]
  obtain⟨a,len,cap,ap,ay,b1,dC⟩:=k
  refine⟨a,len,cap,ap,ay,b1,?_⟩
  rcases dC with e|⟨b,o,gF,nW⟩
  ·exact .inl e
  ·exact .inr ⟨b,o,gF,h.Sw nW⟩
theorem Pure.le {P:Program}{f:FuncId}{az ca:List I}{r:I}(h:Pure P f ca r) (aG:dZ az ca):Pure P f az r:=fun H m aq ap ay b1=>h H m aq ap ay (dZ.GU aG b1)
section
variable {P:Program}{aQ:List bf}{cL t0:Nat}{k:List fs}{Q:Out→aN→Prop}{env:Env}{c:aN}
theorem ar.aZ6 (p o size:Nat){T:TypeId}{cs:List I}(hb:c.H.aY p=some (T,cs)) (aj:cs[o]? =some .bi) (h:ar P aQ cL t0 k Q env (c.cp p T (cs.set o (.aq size [])))):ar P aQ cL t0 k Q env c:=fun H0 ez s bb H R a1 aL ao he ac ag=>by
  obtain⟨x,cC,ci,cM,dE⟩:=ac.aY p T cs hb
  have mR:cC[o]? =some .bi:=by
    obtain⟨v,ap,ay⟩:=dE.get o _ aj
    simp only[aM]at ay
    rw[ap,ay]
  refine cr.conv (fun ct aC=>ct=bb∧aC=H.cp x T (cC.set o (.aq size []))) ?_ ?_
  ·intro m fL bd
   subst fL
   obtain⟨l,rN,mr,y8⟩:=bd.aY x T cC cM
   obtain⟨v,zg,sJ⟩:=mr.get o _ mR
   have v1:aP m (.aq size []) v:=c5.nil m v sJ
   have tT:=mr.set o v1
   rw[B5 zg]at tT
   have cA:=bW.iW bd (w':=m.w) (b:=x) (T:=T) cM rfl rfl rfl rfl (fun _ _=>rfl) rN tT y8
   have ay:=bV.iW bd (w':=m.w) (b:=x) (T:=T) (cs:=cC.set o (.aq size [])) cM rfl rfl rfl rfl (fun _ _=>rfl)
   exact⟨bb,_,_,_,⟨rfl,rfl⟩,cA,ay,fun j v ad=>aP.aI ay _ _ ad⟩
  ·rintro ct aC ⟨rfl,rfl⟩
   refine h H0 ez s _ _ R a1 aL ao he (ac.cp ci ?_) ag
   have: ∀ {az l:List I}(_:bk s az l) (n:Nat){a v:I},aM s a v→bk s (az.set n a) (l.set n v):=by
     intro az
     induction az with
     |nil=>intro l h n a v _; simp only[bk]at h; subst h; simp [bk]
     |cons a az b7=>
      intro l h n b v ad
      simp only[bk]at h
      obtain⟨w,ws,rfl,U,aa⟩:=h
      cases n with
      |zero=>simp only[bh5,bk]; exact⟨_,_,rfl,ad,aa⟩
      |succ n=>simp only[bi2,bk]; exact⟨_,_,rfl,U,b7 aa n ad⟩
   exact this dE o ((I.lA _ rfl _).2 rfl)
end
end Go.ba
namespace Go.ba
open Go
def lg (p:List UInt8×Int):List I:=[.str p.1,.int .i64 p.2]
def mU (s:List UInt8):List (List UInt8×Int)→Option Int
  |[]=>none
  |p::l=>if s=p.1 then some p.2 else mU s l
theorem N8 (s:List UInt8): ∀l:List (List UInt8×Int),lV s (l.map lg)=some ((mU s l).map fun n=> .int .i64 n)
  |[]=>rfl
  |p::l=>by
   simp only[bd4,lg,lV,mU]
   by_cases h:s=p.1
   ·rw[if_pos h,if_pos h]
    rfl
   ·rw[if_neg h,if_neg h]
    exact N8 s l
theorem Om (s:List UInt8) (n:Int): ∀l:List (List UInt8×Int),mU s l=none→kC s (.int .i64 n) (l.map lg)=some ((l++[(s,n)]).map lg)
  |[],_=>rfl
  |p::l,h=>by
   simp only[mU]at h
   by_cases av:s=p.1
   ·rw[if_pos av]at h
    cases h
   ·rw[if_neg av]at h
    simp only[bd4,lg,kC,if_neg av,List.cons_append]
    rw[Om s n l h]
    rfl
section
variable {cY:Program}{env:Env}{c:aN}{anns:List I}{l:List bK}{K:Env→aN→Prop}{Rp:I→aN→Prop}{x y u:aJ}{T t aU d:Nat}{s:List UInt8}{m:List (List UInt8×Int)}{n:Int}{g:Option (Nat×Bool)}
theorem D.mk (h:al cY anns l ((d,.cV c.bh 0)::env) (c.gO (.be T 0 ([].map lg))) K Rp):al cY anns (⟨some d,none,.mkMap T⟩::l) env c K Rp:=al.u rfl rfl h
theorem D.vM (h:al cY anns l ((d,.c3 [.int .i64 ((mU s m).getD 0),.bool (mU s m).isSome])::env) c K Rp) (ab:bl env x= .cV t aU:=by simp (disch:=omega) only[go_sem,simprocAttr]<;>with_reducible rfl) (aL:c.H.tok t=some (.be T aU (m.map lg)):=by simp (disch:=omega) only[go_sem,simprocAttr]<;>with_reducible rfl) (a8:bl env y= .str s:=by simp (disch:=omega) only[go_sem,simprocAttr]<;>with_reducible rfl):al cY anns (⟨some d,none,.iv true (.int .i64 0) x y⟩::l) env c K Rp:=by
  refine al.u rfl (v:= .c3 [.int .i64 ((mU s m).getD 0),.bool (mU s m).isSome]) (c1:=c) ?_ h
  simp only[eu,lx,fe,ab,a8,aL,bM.be,beq_self_eq_true,b2,I.flat,bc0,cond_true,N8,bf0,kD,if_true]
  cases mU s m<;>rfl
theorem D.N9 (h:al cY anns l ((d,.c3 [.int .i64 0,.bool false])::env) c K Rp) (ab:bl env x= .dV (.map none):=by simp (disch:=omega) only[go_sem,simprocAttr]<;>with_reducible rfl) (a8:bl env y= .str s:=by simp (disch:=omega) only[go_sem,simprocAttr]<;>with_reducible rfl):al cY anns (⟨some d,none,.iv true (.int .i64 0) x y⟩::l) env c K Rp:=by
  refine al.u rfl (v:= .c3 [.int .i64 0,.bool false]) (c1:=c) ?_ h
  simp only[eu,lx,fe,ab,a8,b2,I.flat,bc0,cond_true,kD,if_true]
  rfl
theorem D.mp (hm:mU s m=none) (h:al cY anns l env (c.ck t (.be T aU ((m++[(s,n)]).map lg))) K Rp) (ab:bl env x= .cV t aU:=by simp (disch:=omega) only[go_sem,simprocAttr]<;>with_reducible rfl) (aL:c.H.tok t=some (.be T aU (m.map lg)):=by simp (disch:=omega) only[go_sem,simprocAttr]<;>with_reducible rfl) (a8:bl env y= .str s:=by simp (disch:=omega) only[go_sem,simprocAttr]<;>with_reducible rfl) (hu:bl env u= .int .i64 n:=by simp (disch:=omega) only[go_sem,simprocAttr]<;>with_reducible rfl):al cY anns (⟨none,none,.nB x y u⟩::l) env c K Rp:=by
  refine al.Tk rfl (v:= .undef) (c1:=c.ck t (.be T aU ((m++[(s,n)]).map lg))) ?_ h
  simp only[eu,lx,ab,a8,hu,DM,aL,bM.be,beq_self_eq_true,I.one,bc0,cond_true,Om s n m hm,bf0]
end
end Go.ba
namespace Go.ba
open Go
theorem yo {a b:Nat}(h:a≤b):be1 a b=true:=by rw[Nat.ble_eq]; exact h
section
variable {cY:Program}{env:Env}{c:aN}{anns:List I}{l:List bK}{K:Env→aN→Prop}{Rp:I→aN→Prop}{x y i b3 af:aJ}{T t aU d p size:Nat}{rows new:List (List I)}{row:List I}{z sd:Int}{dG FB:IntKind}
theorem D.B6 (h:al cY anns l ((d,.int .i64 rows.length)::env) c K Rp) (ab:bl env x= .cV t aU:=by simp (disch:=omega) only[go_sem,simprocAttr]<;>with_reducible rfl) (aL:c.H.tok t=some (.bC T size aU rows):=by simp (disch:=omega) only[go_sem,simprocAttr]<;>with_reducible rfl):al cY anns (⟨some d,none,.iU x⟩::l) env c K Rp:=by
  refine al.u rfl (v:= .int .i64 rows.length) (c1:=c) ?_ h
  simp only[eu,lx,fe,ab,aL,bM.bC,beq_self_eq_true,cond_true,bf0]
theorem D.sL (p:Nat) (hp:p<rows.length) (h:al cY anns l ((d,.mp t aU (p*size))::env) c K Rp) (ab:bl env x= .cV t aU:=by simp (disch:=omega) only[go_sem,simprocAttr]<;>with_reducible rfl) (aL:c.H.tok t=some (.bC T size aU rows):=by simp (disch:=omega) only[go_sem,simprocAttr]<;>with_reducible rfl) (af:bl env i= .int dG z:=by simp (disch:=omega) only[go_sem,simprocAttr]<;>with_reducible rfl) (e:z=p:=by omega):al cY anns (⟨some d,none,.iJ size x i⟩::l) env c K Rp:=by
  subst e
  refine al.u rfl (v:= .mp t aU (p*size)) (c1:=c) ?_ h
  simp only[eu,lx,fe,ab,af,aL,bM.bC,beq_self_eq_true,cond_true,bc0,DK]
  rw[if_pos ⟨by omega,by omega⟩]
  simp
theorem Ev: ∀ {rows:List (List I)}{p size:Nat}{row:List I},(∀r∈rows,r.length=size)→rows[p]? =some row→p*size+size≤rows.flatten.length∧(rows.flatten.drop (p*size)).take size=row
  |[],_,_,_,_,h=>by simp at h
  |r::rows,0,size,row,ao,h=>by
   have ac:=ao r (by simp)
   simp at h
   subst h
   subst ac
   simp
  |r::rows,p+1,size,row,ao,h=>by
   have ac:=ao r (by simp)
   obtain⟨U,aa⟩:=Ev (p:=p) (size:=size) (row:=row) (fun x ab=>ao x (bh4 _ ab)) (by simpa using h)
   rw[bd0,bb7,ac,bf3,Nat.one_mul]
   refine⟨by omega,?_⟩
   rw[bl1 (p*size),←ac,bp2,ac]
   exact aa
theorem Mp: ∀ {rows:List (List I)}{p size:Nat}{row new:List I},(∀r∈rows,r.length=size)→rows[p]? =some row→new.length=size→chunks size rows.length (gg rows.flatten (p*size) new)=rows.set p new
  |[],_,_,_,_,_,h,_=>by simp at h
  |r::rows,0,size,row,new,ao,h,a1=>by
   have ac:=ao r (by simp)
   have an: ∀rows:List (List I),(∀r∈rows,r.length=size)→chunks size rows.length rows.flatten=rows:=by
     intro rows
     induction rows with
     |nil=>intro _; rfl
     |cons r rows b7=>
      intro ao
      have ac:=ao r (by simp)
      simp only[bb9,chunks,bd0]
      rw[bn8 (by omega),bg8 (by omega),←ac,bp0,ac,b7 fun x ab=>ao x (by simp [ab])]
   simp only[bb9,chunks,bd0,gg,Nat.zero_mul,List.take_zero,List.nil_append,Nat.zero_add,bh5]
   rw[a1,←ac,bp0,ac,bn8 (by omega),bg8 (by omega),←a1,bp0,a1,an rows fun x ab=>ao x (by simp [ab])]
  |r::rows,p+1,size,row,new,ao,h,a1=>by
   have ac:=ao r (by simp)
   have b7:=Mp (p:=p) (size:=size) (row:=row) (new:=new) (fun x ab=>ao x (bh4 _ ab)) (by simpa using h) a1
   have e:gg (r::rows).flatten ((p+1)*size) new=r++gg rows.flatten (p*size) new:=by
     unfold gg
     rw[bd0,bf3,Nat.one_mul,bl1 (p*size),←ac,List.take_length_add_append,show r.length+p*r.length+new.length=r.length+(p*r.length+new.length) by omega,bp2]
     simp only[List.append_assoc]
   rw[e]
   simp only[bb9,chunks,bi2]
   rw[bn8 (by omega),bg8 (by omega),←ac,bp0,ac,b7]
theorem D.xx {agg:Bool}{v:I}(ac:rows[p]? =some row) (ao: ∀r∈rows,r.length=size) (h:al cY anns l ((d,v)::env) c K Rp) (ab:bl env x= .mp t aU (p*size):=by simp (disch:=omega) only[go_sem,simprocAttr]<;>with_reducible rfl) (aL:c.H.tok t=some (.bC T size aU rows):=by simp (disch:=omega) only[go_sem,simprocAttr]<;>with_reducible rfl) (ad:I.iA agg row=some v:=by simp (disch:=omega) only[go_sem,simprocAttr]<;>rfl):al cY anns (⟨some d,none,.ji agg size x⟩::l) env c K Rp:=by
  obtain⟨U,aa⟩:=Ev ao ac
  refine al.u rfl (v:=v) (c1:=c) ?_ h
  simp only[eu,lx,fe,ab,aL,bM.bC,beq_self_eq_true,cond_true,DN]
  rw[if_pos U,aa,ad]
  rfl
theorem D.stM {v:I}(ac:rows[p]? =some row) (ao: ∀r∈rows,r.length=size) (h:al cY anns l env (c.ck t (.bC T size aU (rows.set p v.cells))) K Rp) (ab:bl env x= .mp t aU (p*size):=by simp (disch:=omega) only[go_sem,simprocAttr]<;>with_reducible rfl) (aL:c.H.tok t=some (.bC T size aU rows):=by simp (disch:=omega) only[go_sem,simprocAttr]<;>with_reducible rfl) (a8:bl env y=v:=by simp (disch:=omega) only[go_sem,simprocAttr]<;>with_reducible rfl) (ad:(v.ea&&(v.cells.length==size&&v.cells.all I.one))=true:=by simp (disch:=omega) only[go_sem,simprocAttr]<;>rfl):al cY anns (⟨none,none,.store size x y⟩::l) env c K Rp:=by
  obtain⟨U,aa⟩:=Ev ao ac
  simp only[bb6,beq_iff_eq]at ad
  obtain⟨v1,v2,v3⟩:=ad
  have aG:rows.flatten.length=rows.length*size:=CE ao
  refine al.Tk rfl (v:= .undef) (c1:=c.ck t (.bC T size aU (rows.set p v.cells))) ?_ h
  simp only[eu,lx,ab,a8,yx,aL,bM.bC,beq_self_eq_true,v1,v2,v3,aG,bc0,Bool.true_and,Bool.and_true,yo (aG▸U:p*size+size≤rows.length*size),cond_true]
  rw[Mp ao ac v2]
theorem D.Ib {bytes:Nat}(h:al cY anns l ((d,.cV t (aU+1))::env) (c.ck t (.bC T size (aU+1) (rows++new))) K Rp) (ab:bl env x= .cV t aU:=by simp (disch:=omega) only[go_sem,simprocAttr]<;>with_reducible rfl) (aL:c.H.tok t=some (.bC T size aU rows):=by simp (disch:=omega) only[go_sem,simprocAttr]<;>with_reducible rfl) (a8:rowsOf size (bl env y)=some new:=by simp only[rowsOf]<;>simp (disch:=omega) only[go_sem,simprocAttr]<;>with_reducible rfl) (hb:(rows.length+new.length)*bytes≤140737488355328:=by simp only[bb5,bb7,bb9,bc4]<;>omega) (hm:rows.length+new.length≤maxLen:=by simp only[bb5,bb7,bb9,bc4,maxLen]<;>omega):al cY anns (⟨some d,none,.mJ T size bytes x y⟩::l) env c K Rp:=by
  refine al.u rfl (v:= .cV t (aU+1)) (c1:=c.ck t (.bC T size (aU+1) (rows++new))) ?_ h
  simp only[eu,lx,ab,a8,DI,aL,bM.bC,beq_self_eq_true,yo hb,yo hm,bc0,cond_true]
theorem D.aP7 (aG:rows.length≠0) (h:al cY anns l ((d,.cV t (aU+1))::env) (c.ck t (.bC T size (aU+1) rows.tail)) K Rp) (ab:bl env x= .cV t aU:=by simp (disch:=omega) only[go_sem,simprocAttr]<;>with_reducible rfl) (aL:c.H.tok t=some (.bC T size aU rows):=by simp (disch:=omega) only[go_sem,simprocAttr]<;>with_reducible rfl):al cY anns (⟨some d,none,.mZ size x (some (.c (.int .i64 1))) none⟩::l) env c K Rp:=by
  refine al.u rfl (v:= .cV t (aU+1)) (c1:=c.ck t (.bC T size (aU+1) rows.tail)) ?_ h
  simp only[eu,lx,ab,DP,aL,bM.bC,show mL env 0 (some (.c (.int .i64 1)))=some 1 from rfl,show mL env rows.length none=some rows.length from rfl,beq_self_eq_true,yo (Nat.le_refl _),yo (Nat.one_le_iff_ne_zero.2 aG),bc0,cond_true,List.take_length,List.drop_one]
end
section
variable {P:Program}{aQ:List bf}{cL t0:Nat}{k:List fs}{Q:Out→aN→Prop}{env:Env}{c:aN}
theorem bk.SH {s:bx}: ∀ {az l:List I}(_:bk s az l) (n:Nat){a v:I},aM s a v→bk s (az.set n a) (l.set n v)
  |[],l,h,n,a,v,_=>by simp only[bk]at h; subst h; simp [bk]
  |a::az,l,h,0,b,v,ad=>by
   simp only[bk]at h
   obtain⟨w,ws,rfl,U,aa⟩:=h
   simp only[bh5,bk]
   exact⟨_,_,rfl,ad,aa⟩
  |a::az,l,h,n+1,b,v,ad=>by
   simp only[bk]at h
   obtain⟨w,ws,rfl,U,aa⟩:=h
   simp only[bi2,bk]
   exact⟨_,_,rfl,U,bk.SH aa n ad⟩
theorem ar.x5 (p o size t:Nat){T:TypeId}{cs:List I}{rows:List (List I)}(hb:c.H.aY p=some (T,cs)) (aj:cs[o]? =some (.own t size rows)) (aT:eY rows=true) (h:ar P aQ cL t0 k Q env (c.cp p T (cs.set o (.aq size rows)))):ar P aQ cL t0 k Q env c:=fun H0 ez s bb H R a1 aL ao he ac ag=>by
  obtain⟨x,cC,ci,cM,dE⟩:=ac.aY p T cs hb
  obtain⟨dv,mR⟩: ∃dv,cC[o]? =some (.own dv size rows):=by
    obtain⟨v,ap,ay⟩:=dE.get o _ aj
    simp only[aM]at ay
    obtain⟨y,l,_,rfl,b1⟩:=ay
    obtain rfl:=(qC _ aT _).1 b1
    exact⟨y,ap⟩
  refine cr.conv (fun ct aC=>ct=bb∧aC=H.cp x T (cC.set o (.aq size rows))) ?_ ?_
  ·intro m fL bd
   subst fL
   obtain⟨l,rN,mr,y8⟩:=bd.aY x T cC cM
   obtain⟨v,zg,sJ⟩:=mr.get o _ mR
   have v1:aP m (.aq size rows) v:=by
     simp only[aP]at sJ ⊢
     exact sJ.1
   have tT:=mr.set o v1
   rw[B5 zg]at tT
   have cA:=bW.iW bd (w':=m.w) (b:=x) (T:=T) cM rfl rfl rfl rfl (fun _ _=>rfl) rN tT y8
   have ay:=bV.iW bd (w':=m.w) (b:=x) (T:=T) (cs:=cC.set o (.aq size rows)) cM rfl rfl rfl rfl (fun _ _=>rfl)
   exact⟨bb,_,_,_,⟨rfl,rfl⟩,cA,ay,fun j v ad=>aP.aI ay _ _ ad⟩
  ·rintro ct aC ⟨rfl,rfl⟩
   refine h H0 ez s _ _ R a1 aL ao he (ac.cp ci ?_) ag
   exact bk.SH dE o ((I.lA _ (by simp only[I.flat,aT]) _).2 rfl)
end
mutual
inductive ql (C:aA):I→I→Prop
  |aF {v r:I}(h:v.aF=r) (aT:r.flat=true):ql C v r
  |nil {n:Nat}:ql C .bi (.aq n [])
  |cV {t aU T size:Nat}{rows:List (List I)}(h:C.tok t=some (.bC T size aU rows)) (aT:eY rows=true):ql C (.cV t aU) (.aq size rows)
  |agg {az ca:List I}(h:rm C az ca):ql C (.agg az) (.agg ca)
  |c3 {az ca:List I}(h:rm C az ca):ql C (.c3 az) (.c3 ca)
inductive rm (C:aA):List I→List I→Prop
  |nil:rm C [] []
  |cons {a b:I}{az ca:List I}(h:ql C a b) (t:rm C az ca):rm C (a::az) (b::ca)
end
section
variable {C H aC:aA}{s:bx}
mutual
theorem ql.bY (ac:HR H s C aC): ∀ {v r:I},ql C v r→∀(bD:I),aM s v bD→mF aC H bD r
  | _,_,.aF h aT,bD,ad=>mF.le ac.base (by subst h; exact fun m y a8=>As _ bD ad aT y a8)
  | _,_,.nil,bD,ad=>mF.le ac.base (by simp only[aM]at ad; subst ad; exact c5.nil)
  | _,_,.cV h aT,bD,ad=>by
    simp only[aM]at ad
    obtain⟨x,ap,rfl⟩:=ad
    obtain⟨z,l,f1,f2,f3⟩:=ac.bC h
    rw[ap]at f1
    cases f1
    obtain rfl:=(qC _ aT _).1 f3
    exact mF.cV ac.base f2 (ac.kE _ _ ap).1
  | _,_,.agg h,bD,ad=>by simp only[aM]at ad; obtain⟨l,rfl,aG⟩:=ad; exact mF.agg (rm.bY ac h l aG)
  | _,_,.c3 h,bD,ad=>by simp only[aM]at ad; obtain⟨l,rfl,aG⟩:=ad; exact mF.c3 (rm.bY ac h l aG)
theorem rm.bY (ac:HR H s C aC): ∀ {az ca:List I},rm C az ca→∀(l:List I),bk s az l→rc aC H l ca
  | _,_,.nil,l,h=>by simp only[bk]at h; subst h; exact rc.nil
  | _,_,.cons h t,l,aG=>by simp only[bk]at aG; obtain⟨v,aq,rfl,U,aa⟩:=aG; exact rc.cons (ql.bY ac h v U) (rm.bY ac t aq aa)
end
end
def T4 (r:I):Out→aN→Prop:=fun o c=> ∃v,o= .ret v∧ql c.H v r
theorem ay4 {P:Program}{f:FuncId}{az:List I}{aQ:List bf}{r:I}{fn:Func}{e:bp}(hm:P.follows .mixedOrders=true) (aT:P.funcs[f]? =some fn) (an:bL P fn az.length e aQ=true) (aS:b2 az=true) (h:ar P aQ 0 0 [.c e] (T4 r) (lE az) .new):Pure P f az r:=fun H=>
  (bg.intro hm aT an h H ⟨[],[]⟩ az H ((mM az aS _).2 rfl) (eR.start H)).bY fun o aC ⟨bR,e4,c1,er,a2,a3,a4⟩=>by
    obtain⟨v,ap,ay⟩:=a2
    subst ap
    cases o with
    |ey w=>simp only[mG]at a3
    |ret w=>exact⟨.ret r,H,ql.bY a4.toHR ay w a3,a4.base,rfl,rfl⟩
section
variable {P:Program}{anns:List I}{l:List bK}{env:Env}{c:aN}{K:Env→aN→Prop}{Rp:I→aN→Prop}{f:FuncId}{az:List I}{T size:Nat}{rows:List (List I)}
theorem bg.at2 (h:AG P f az T size rows) (aT:b2 az=true) (ac:eY rows=true):bg P f az c (mH (.cV c.bh 0) (c.gO (.bC T size 0 rows))):=fun H0 s iF H aS a6=>by
  obtain rfl:=(mM az aT _).1 aS
  refine (h H).mono fun o aC ⟨t,U,aa,aD⟩=> ?_
  subst aa aD
  refine⟨.ret (.cV t 0),_,c5.refl _,HSub.refl _,⟨s.b,s.t++[t]⟩,.ret (.cV c.bh 0),_,bx.lH s t,⟨rfl,rfl⟩,?_,a6.gO (h8.bC ((qC rows ac _).2 rfl)) U⟩
  simp only[mG,aM]
  exact⟨t,by rw[a6.bh]; exact oj,rfl⟩
theorem D.T0 {d:Nat}{args:List aJ}(h:AG P f az T size rows) (av:al P anns l ((d,.cV c.bh 0)::env) (c.gO (.bC T size 0 rows)) K Rp) (aS:args.map (bl env)=az:=by simp (disch:=omega) only[go_sem,simprocAttr]<;>with_reducible rfl) (aT:b2 az=true:=by simp (disch:=omega) only[go_sem,simprocAttr]<;>rfl) (ac:eY rows=true:=by simp (disch:=omega) only[go_sem,simprocAttr]<;>rfl):al P anns (⟨some d,none,.call f args⟩::l) env c K Rp:=al.st rfl (bg.at2 h aT ac) aS av
end
end Go.ba
namespace Go.ba
open Go
section
variable {P:Program}{env:Env}{c c1:aN}{v bD:I}{anns:List I}{l:List bK}{K:Env→aN→Prop}{Rp:I→aN→Prop}{f:FuncId}{args:List aJ}{az dS cap:List I}{others:List Nat}{x:aJ}
theorem NR {s bR:bx}{H0 H aC:aA}{bb:Env}(he:hP s env bb) (ac:eR H0 s c H) (ci:bx.eH s bR) (a1:c1.bP=c.bP) (aL:c1.bh=c.bh) (mz:eR H0 bR c1 aC) (j:Nat) (aj: ∃bT cG cC,env.get j= .ptr bT 0∧c.H.aY bT=some (cG,cC)∧c1.H.aY bT=some (cG,cC)∧oN cC=true) (y:Nat) (a8:bb.get j= .ptr y 0):aC.aY y=H.aY y:=by
  have:bR=s:=ci.eq (by rw[←mz.bP,a1,ac.bP]) (by rw[←mz.bh,aL,ac.bh])
  subst this
  obtain⟨bT,cG,cC,ap,ay,b1,dC⟩:=aj
  have jh:=he j
  rw[ap]at jh
  simp only[aM]at jh
  obtain⟨z,g1,g2⟩:=jh
  rw[a8]at g2
  cases g2
  obtain⟨w,aK,cm,cA,dk⟩:=ac.aY bT cG cC ay
  obtain⟨km,fR,hF,mA,v7⟩:=mz.aY bT cG cC b1
  rw[g1]at cm hF
  cases cm
  cases hF
  rw[cA,mA,bk.same cC aK fR dC dk v7]
theorem eR.sub {H0 H:aA}{s:bx}(ac:eR H0 s c H) (dD: ∀b y,c1.H.aY b=some y→c.H.aY b=some y) (c4: ∀t y,c1.H.tok t=some y→c.H.tok t=some y) (a1:c1.bP=c.bP) (aL:c1.bh=c.bh):eR H0 s c1 H where
  base:=ac.base
  aY:=fun b T cs h=>ac.aY b T cs (dD _ _ h)
  tok:=fun t i h=>ac.tok t i (c4 _ _ h)
  lj:=ac.lj
  kE:=ac.kE
  lF:=ac.lF
  mv:=ac.mv
  bP:=a1.trans ac.bP
  bh:=aL.trans ac.bh
theorem h7.AX (h:bg P f (args.map (bl env)) c (mH v c1)) (dD: ∀b y,c1.H.aY b=some y→c.H.aY b=some y) (c4: ∀t y,c1.H.tok t=some y→c.H.tok t=some y) (a1:c1.bP=c.bP) (aL:c1.bh=c.bh) (ad:v.flat=true) (aj: ∀s∈others,∃bT cG cC,env.get s= .ptr bT 0∧c.H.aY bT=some (cG,cC)∧c1.H.aY bT=some (cG,cC)∧oN cC=true):h7 P (.gP others f args) env c (fun bD cJ=>bD=v∧cJ=c1) Rp:=fun H0 s bb H K jo he ac dL iS=>by
  refine .gP (az:=args.map (aJ.aI bb)) _ (fun j bm=> ?_) (fun cR=> ?_) (dZ.sZ _) (h H0 s _ H (nR he args) ac) (Cl (fun bR v1 Al c1 aC ci cM dE gU=>by obtain⟨ap,ay⟩:=cM; cases ap; exact dL bR _ Al c1 aC ci ⟨rfl,ay⟩ dE gU) (fun bR v1 Al c1 aC ci cM dE gU=>by obtain⟨ap,ay⟩:=cM; cases ap))
  ·obtain⟨bT,cG,cC,ap,ay,b1,dC⟩:=aj j bm
   have jh:=he j
   rw[ap]at jh
   simp only[aM]at jh
   obtain⟨y,g1,g2⟩:=jh
   refine⟨y,g2,fun o aC ⟨bR,e4,cb,ci,⟨cM,dE⟩,gU,mz⟩=> ?_⟩
   subst dE
   exact NR he ac ci a1 aL mz j ⟨bT,cG,cC,ap,ay,b1,dC⟩ y g2
  ·exact⟨v,H,⟨s,.ret v,_,bx.eH.refl s,⟨rfl,rfl⟩,(I.lA v ad v).2 rfl,ac.sub dD c4 a1 aL⟩,cR⟩
theorem h7.Xf (ab:bl env x= .fn f cap) (an:c6 P f=true) (h:bg P f (args.map (bl env)++cap) c (mH v c1)) (dD: ∀b y,c1.H.aY b=some y→c.H.aY b=some y) (c4: ∀t y,c1.H.tok t=some y→c.H.tok t=some y) (a1:c1.bP=c.bP) (aL:c1.bh=c.bh) (ad:v.flat=true) (aj: ∀s∈others,∃bT cG cC,env.get s= .ptr bT 0∧c.H.aY bT=some (cG,cC)∧c1.H.aY bT=some (cG,cC)∧oN cC=true):h7 P (.kT others x args) env c (fun bD cJ=>bD=v∧cJ=c1) Rp:=fun H0 s bb H K jo he ac dL iS=>by
  have jv:=dY he ab
  simp only[aM]at jv
  obtain⟨I6,g1,g2⟩:=jv
  refine .kT _ g1 an (fun j bm=> ?_) (fun cR=> ?_) (dZ.sZ _) (h H0 s _ H ((nR he args).append g2) ac) (Cl (fun bR v1 Al c1 aC ci cM dE gU=>by obtain⟨ap,ay⟩:=cM; cases ap; exact dL bR _ Al c1 aC ci ⟨rfl,ay⟩ dE gU) (fun bR v1 Al c1 aC ci cM dE gU=>by obtain⟨ap,ay⟩:=cM; cases ap))
  ·obtain⟨bT,cG,cC,ap,ay,b1,dC⟩:=aj j bm
   have jh:=he j
   rw[ap]at jh
   simp only[aM]at jh
   obtain⟨y,g3,g4⟩:=jh
   refine⟨y,g4,fun o aC ⟨bR,e4,cb,ci,⟨cM,dE⟩,gU,mz⟩=> ?_⟩
   subst dE
   exact NR he ac ci a1 aL mz j ⟨bT,cG,cC,ap,ay,b1,dC⟩ y g4
  ·exact⟨v,H,⟨s,.ret v,_,bx.eH.refl s,⟨rfl,rfl⟩,(I.lA v ad v).2 rfl,ac.sub dD c4 a1 aL⟩,cR⟩
def nl (H:Nat→Option (TypeId×List I)) (env:Env) (cq:eJ):List Nat→Prop
  |[]=>True
  |s::l=>(∃bT cG cC,env.get s= .ptr bT 0∧H bT=some (cG,cC)∧gS cq bT=some (cG,cC)∧oN cC=true)∧nl H env cq l
theorem nl.get {H:Nat→Option (TypeId×List I)}{env:Env}{cq:eJ}: ∀ {l:List Nat},nl H env cq l→∀s∈l,∃bT cG cC,env.get s= .ptr bT 0∧H bT=some (cG,cC)∧gS cq bT=some (cG,cC)∧oN cC=true
  |x::l,h,s,ao=>by
   rcases List.mem_cons.1 ao with rfl|ao
   ·exact h.1
   ·exact nl.get h.2 s ao
theorem ar.hz {aQ:List bf}{cL t0:Nat}{k:List fs}{Q:Out→aN→Prop}{X:Type}{E:X→Env}{bP bh:Nat}{B:X→eJ}{T:X→eK}{eG:X→Prop}{bC:X→Nat}{m0:Nat}(x:X) (aW:eG x) (he:pE env (E x)) (hb:jX c.H (B x)) (aL:jY c.H (T x)) (U:bC x<m0) (a1:(be1 cL bP&&(be1 bP c.bP&&(be1 t0 bh&&be1 bh c.bh)))=true:=by rfl) (bG:(im bP bh (E x)&&(eA bP bh (B x)&&eB bP bh (T x)))=true:=by simp (disch:=omega) only[go_sem,simprocAttr,im,bM.bY,bM.be,bM.bC]<;>rfl):ar P aQ cL t0 (.mX (yc E (fun x=>aN.of bP bh (B x) (T x)) eG bC) m0::k) Q env c:=ar.jS x aW he hb aL a1 bG U
theorem D.C7 {d bP bh:Nat}(s:bx){fP j6:eJ}{fY l5:eK}{n q:Nat}(h:bg P f dS (aN.of n q fP fY) (dA v fP fY)) (av:al P anns l ((d,v)::env) (aN.of bP bh j6 l5) K Rp)
    (hu:c.kk s fP fY=aN.of bP bh j6 l5:=by simp (disch:=omega) only[go_sem,simprocAttr]<;>with_reducible rfl)
    (an:(s.b.length==n&&(s.t.length==q&&(nodupB s.b&&(nodupB s.t&&(s.b.all (fun x=>bf8 x c.bP)&&(s.t.all (fun x=>bf8 x c.bh)&&(dw n q dS&&(eA n q fP&&(eB n q fY&&v.flat)))))))))=true:=by simp (disch:=omega) only[go_sem,simprocAttr]<;>rfl) (dD:nw c.H.aY s fP:=by repeat first|exact trivial|refine⟨rfl,?_⟩) (c4:nx c.H.tok s fY:=by repeat first|exact trivial|refine⟨rfl,?_⟩) (aS:args.map (bl env)=e7 s dS:=by simp (disch:=omega) only[go_sem,simprocAttr]<;>rfl)
    (EL:jX c.H j6:=by repeat first|exact trivial|refine⟨rfl,?_⟩) (EQ:jY c.H l5:=by repeat first|exact trivial|refine⟨rfl,?_⟩) (a1:c.bP=bP:=by rfl) (aL:c.bh=bh:=by rfl)
    (aj:nl c.H.aY env j6 others:=by repeat first|exact trivial|refine⟨⟨_,_,_,by simp (disch:=omega) only[go_sem,simprocAttr]<;>with_reducible rfl,rfl,rfl,by simp (disch:=omega) only[go_sem,simprocAttr]<;>rfl⟩,?_⟩):al P anns (⟨some d,none,.gP others f args⟩::l) env c K Rp:=by
  simp only[bb6,beq_iff_eq]at an
  obtain⟨c1,cb,eW,gE,ls,me,nP,o3,mK,mc⟩:=an
  have cR:bg P f (args.map (bl env)) c (mH v (aN.of bP bh j6 l5)):=by
    rw[aS,←hu]
    have:=bg.o6 (c:=c) s h c1 cb (by rw[eW,gE,ls,me]; rfl) dD c4 (by rw[nP,o3,mK]; rfl) (by rw[o3,mK,sx _ mc]; rfl) rfl
    rwa [sy _ mc]at this
  exact al.p5 rfl rfl (h7.AX (others:=others) cR (fun b y h=>jX.get EL b y h) (fun t y h=>jY.get EQ t y h) a1.symm aL.symm mc (nl.get aj)) fun bD cJ ⟨ap,ay⟩=>by rw[ap,ay]; exact av
theorem D.re {d bP bh:Nat}(s:bx){fP j6:eJ}{fY l5:eK}{n q:Nat}(aT:c6 P f=true) (h:bg P f dS (aN.of n q fP fY) (dA v fP fY)) (av:al P anns l ((d,v)::env) (aN.of bP bh j6 l5) K Rp)
    (hu:c.kk s fP fY=aN.of bP bh j6 l5:=by simp (disch:=omega) only[go_sem,simprocAttr]<;>with_reducible rfl)
    (ab:bl env x= .fn f cap:=by simp (disch:=omega) only[go_sem,simprocAttr]<;>with_reducible rfl)
    (an:(s.b.length==n&&(s.t.length==q&&(nodupB s.b&&(nodupB s.t&&(s.b.all (fun x=>bf8 x c.bP)&&(s.t.all (fun x=>bf8 x c.bh)&&(dw n q dS&&(eA n q fP&&(eB n q fY&&v.flat)))))))))=true:=by simp (disch:=omega) only[go_sem,simprocAttr]<;>rfl) (dD:nw c.H.aY s fP:=by repeat first|exact trivial|refine⟨rfl,?_⟩) (c4:nx c.H.tok s fY:=by repeat first|exact trivial|refine⟨rfl,?_⟩) (aS:args.map (bl env)++cap=e7 s dS:=by simp (disch:=omega) only[go_sem,simprocAttr]<;>rfl)
    (EL:jX c.H j6:=by repeat first|exact trivial|refine⟨rfl,?_⟩) (EQ:jY c.H l5:=by repeat first|exact trivial|refine⟨rfl,?_⟩) (a1:c.bP=bP:=by rfl) (aL:c.bh=bh:=by rfl)
    (aj:nl c.H.aY env j6 others:=by repeat first|exact trivial|refine⟨⟨_,_,_,by simp (disch:=omega) only[go_sem,simprocAttr]<;>with_reducible rfl,rfl,rfl,by simp (disch:=omega) only[go_sem,simprocAttr]<;>rfl⟩,?_⟩):al P anns (⟨some d,none,.kT others x args⟩::l) env c K Rp:=by
  simp only[bb6,beq_iff_eq]at an
  obtain⟨c1,cb,eW,gE,ls,me,nP,o3,mK,mc⟩:=an
  have cR:bg P f (args.map (bl env)++cap) c (mH v (aN.of bP bh j6 l5)):=by
    rw[aS,←hu]
    have:=bg.o6 (c:=c) s h c1 cb (by rw[eW,gE,ls,me]; rfl) dD c4 (by rw[nP,o3,mK]; rfl) (by rw[o3,mK,sx _ mc]; rfl) rfl
    rwa [sy _ mc]at this
  exact al.p5 rfl rfl (h7.Xf (others:=others) ab aT cR (fun b y h=>jX.get EL b y h) (fun t y h=>jY.get EQ t y h) a1.symm aL.symm mc (nl.get aj)) fun bD cJ ⟨ap,ay⟩=>by rw[ap,ay]; exact av
theorem bg.dead {Q:Out→aN→Prop}(j T:Nat) (bm:c.H.tok j=some (.bY T 0 0)):bg P f az c Q:=fun H0 s iF H aS ac=>by
  intro m aq fL bd
  obtain⟨x,dh,U,aa,_,bA,_⟩:=ac.tok j _ bm
  subst fL
  exact absurd bA (bd.tok x dh aa).2.1
theorem D.C4 {d bP bh:Nat}{cq:eJ}{cH:eK}(jy:I) (j T:Nat) (av:al P anns l ((d,jy)::env) (aN.of bP bh cq cH) K Rp) (bm:(aN.of bP bh cq cH).H.tok j=some (.bY T 0 0):=by rfl) (Fo:jy.flat=true:=by rfl)
    (aj:nl (gS cq) env cq others:=by repeat first|exact trivial|refine⟨⟨_,_,_,by simp (disch:=omega) only[go_sem,simprocAttr]<;>with_reducible rfl,rfl,rfl,by simp (disch:=omega) only[go_sem,simprocAttr]<;>rfl⟩,?_⟩):al P anns (⟨some d,none,.gP others f args⟩::l) env (aN.of bP bh cq cH) K Rp:=
  al.p5 rfl rfl (h7.AX (others:=others) (c:=aN.of bP bh cq cH) (c1:=aN.of bP bh cq cH) (v:=jy) (bg.dead j T bm) (fun _ _ h=>h) (fun _ _ h=>h) rfl rfl Fo (nl.get aj)) fun bD cJ ⟨ap,ay⟩=>by rw[ap,ay]; exact av
end
end Go.ba
namespace Go.ba.T.N
open Go Go.ba Go.Proofs
set_option maxRecDepth 1000000
abbrev aE (d:Nat) (o:bc):bK:=⟨some d,none,o⟩
abbrev cc (d j:Nat) (b:Bool) (o:bc):bK:=⟨some d,some (j,b),o⟩
abbrev qL (o:bc):bK:=⟨none,none,o⟩
abbrev cB:aJ:= .c (.bool false)
abbrev cW:aJ:= .c (.bool true)
abbrev ax (n:Int):aJ:= .c (.int .i64 n)
abbrev bs (s:List UInt8):aJ:= .c (.str s)
abbrev J (d s:Nat):bK:=⟨some d,none,.gI (.t s)⟩
abbrev b8 (d:Nat):bK:=⟨some d,none,.gI (.c (.bool false))⟩
abbrev kB (d:Nat):bK:=⟨some d,none,.gI (.c (.bool true))⟩
abbrev bq (d:Nat) (x:aJ):bK:=⟨some d,none,.gI x⟩
abbrev aK (d a:Nat):bK:=⟨some d,none,.load false 1 (.t a)⟩
abbrev b5 (d n a:Nat):bK:=⟨some d,none,.load true n (.t a)⟩
abbrev aH (d k a:Nat):bK:=⟨some d,none,.nZ k (.t a)⟩
abbrev aB (d:Nat) (o:BinOp) (x y:aJ):bK:=⟨some d,none,.bin o x y⟩
abbrev bE (d f:Nat) (l:List aJ):bK:=⟨some d,none,.call f l⟩
abbrev fA (d f:Nat) (l:List aJ):bK:=⟨some d,none,.jj f l⟩
abbrev bF (d:Nat) (x y z:aJ):bK:=⟨some d,none,.pick x y z⟩
abbrev fz (d s:Nat):bK:=⟨some d,none,.not (.t s)⟩
abbrev cK (d s:Nat):bK:=⟨some d,none,.len (.t s)⟩
abbrev cE (d n:Nat) (x y:aJ):bK:=⟨some d,none,.hV n x y⟩
abbrev cX (d j:Nat) (b:Bool) (s:Nat):bK:=⟨some d,some (j,b),.gI (.t s)⟩
abbrev bI (d j:Nat) (b:Bool) (a:Nat):bK:=⟨some d,some (j,b),.load false 1 (.t a)⟩
abbrev bz (d j:Nat) (b:Bool) (k a:Nat):bK:=⟨some d,some (j,b),.nZ k (.t a)⟩
abbrev b9 (d j:Nat) (b:Bool) (o:BinOp) (x y:aJ):bK:=⟨some d,some (j,b),.bin o x y⟩
abbrev dX (d j:Nat) (b:Bool) (f:Nat) (l:List aJ):bK:=⟨some d,some (j,b),.call f l⟩
abbrev c8 (n a:Nat) (x:aJ):bK:=⟨none,none,.store n (.t a) x⟩
abbrev a69 (x:aJ):bK:=⟨none,none,.gn x⟩
abbrev ah (l:List bK) (k:bp):bp:= .seq (.region l false) k
abbrev a7 (l:List bK):bp:= .seq (.region l false) .ret
abbrev aO (a b:bp):bp:= .seq a b
abbrev bQ (l:List bK):bp:= .region l false
abbrev aZ (t:Nat) (a b:bp):bp:= .cond (.t t) a b
abbrev eI:aJ:= .t 0
abbrev jB:aJ:= .t 1
abbrev aS0:aJ:= .t 2
abbrev eQ:aJ:= .t 3
abbrev hY:aJ:= .t 4
abbrev dN:aJ:= .t 5
abbrev dO:aJ:= .t 6
abbrev dy:aJ:= .t 7
abbrev ds:aJ:= .t 8
abbrev eE:aJ:= .t 9
abbrev fl:aJ:= .t 10
abbrev dp:aJ:= .t 11
abbrev dU:aJ:= .t 12
abbrev ee:aJ:= .t 13
abbrev fr:aJ:= .t 14
abbrev dH:aJ:= .t 15
abbrev gq:aJ:= .t 16
abbrev fC:aJ:= .t 17
abbrev gh:aJ:= .t 18
abbrev e8:aJ:= .t 19
abbrev gL:aJ:= .t 20
abbrev gM:aJ:= .t 21
abbrev gr:aJ:= .t 22
abbrev fN:aJ:= .t 23
abbrev ga:aJ:= .t 24
abbrev hA:aJ:= .t 25
abbrev ik:aJ:= .t 26
abbrev fO:aJ:= .t 27
abbrev gi:aJ:= .t 28
abbrev iC:aJ:= .t 29
abbrev iN:aJ:= .t 30
abbrev hJ:aJ:= .t 31
abbrev jn:aJ:= .t 32
abbrev iw:aJ:= .t 33
abbrev iX:aJ:= .t 34
abbrev ki:aJ:= .t 35
abbrev iO:aJ:= .t 36
abbrev jV:aJ:= .t 37
abbrev lm:aJ:= .t 38
abbrev ln:aJ:= .t 39
abbrev kI:aJ:= .t 40
abbrev kJ:aJ:= .t 41
abbrev l6:aJ:= .t 42
abbrev jW:aJ:= .t 43
abbrev kK:aJ:= .t 44
abbrev lN:aJ:= .t 45
abbrev lO:aJ:= .t 46
abbrev mC:aJ:= .t 47
abbrev nb:aJ:= .t 48
abbrev od:aJ:= .t 49
abbrev iY:aJ:= .t 50
abbrev lo:aJ:= .t 51
abbrev lP:aJ:= .t 52
abbrev pA:aJ:= .t 53
abbrev kj:aJ:= .t 54
abbrev mD:aJ:= .t 55
abbrev j5:aJ:= .t 56
abbrev nc:aJ:= .t 57
abbrev kL:aJ:= .t 58
abbrev oO:aJ:= .t 59
abbrev nK:aJ:= .t 60
abbrev oe:aJ:= .t 61
abbrev qd:aJ:= .t 62
abbrev oP:aJ:= .t 63
abbrev oQ:aJ:= .t 64
abbrev oR:aJ:= .t 65
abbrev nd:aJ:= .t 66
abbrev pB:aJ:= .t 67
abbrev q2:aJ:= .t 68
abbrev oS:aJ:= .t 69
abbrev ng:aJ:= .t 70
abbrev og:aJ:= .t 71
abbrev r3:aJ:= .t 72
abbrev oT:aJ:= .t 73
abbrev r4:aJ:= .t 74
abbrev r5:aJ:= .t 75
abbrev q3:aJ:= .t 76
abbrev qe:aJ:= .t 77
abbrev we:aJ:= .t 78
abbrev wg:aJ:= .t 79
abbrev s4:aJ:= .t 80
abbrev s5:aJ:= .t 81
abbrev wh:aJ:= .t 82
abbrev uA:aJ:= .t 83
abbrev uB:aJ:= .t 84
abbrev x0:aJ:= .t 85
abbrev r6:aJ:= .t 86
abbrev Ah:aJ:= .t 87
abbrev uC:aJ:= .t 88
abbrev uD:aJ:= .t 89
abbrev Ai:aJ:= .t 90
abbrev uE:aJ:= .t 91
abbrev x1:aJ:= .t 92
abbrev wi:aJ:= .t 93
abbrev wj:aJ:= .t 94
abbrev x2:aJ:= .t 95
abbrev Aj:aJ:= .t 96
abbrev CW:aJ:= .t 97
abbrev CX:aJ:= .t 98
abbrev Hs:aJ:= .t 99
abbrev Ab:aJ:= .t 100
abbrev xX:aJ:= .t 101
abbrev xY:aJ:= .t 102
abbrev CQ:aJ:= .t 103
abbrev Ac:aJ:= .t 104
abbrev Ad:aJ:= .t 105
abbrev Ae:aJ:= .t 106
abbrev S5:aJ:= .t 107
abbrev Af:aJ:= .t 108
abbrev xZ:aJ:= .t 109
abbrev CR:aJ:= .t 110
abbrev Hf:aJ:= .t 111
abbrev Hg:aJ:= .t 112
abbrev CS:aJ:= .t 113
abbrev S6:aJ:= .t 114
abbrev Ag:aJ:= .t 115
abbrev Hh:aJ:= .t 116
abbrev Hi:aJ:= .t 117
abbrev Hj:aJ:= .t 118
abbrev Hk:aJ:= .t 119
abbrev aQ8:aJ:= .t 120
abbrev CT:aJ:= .t 121
abbrev S7:aJ:= .t 122
abbrev S8:aJ:= .t 123
abbrev CU:aJ:= .t 124
abbrev S9:aJ:= .t 125
abbrev Ta:aJ:= .t 126
abbrev Hl:aJ:= .t 127
abbrev aQ9:aJ:= .t 128
abbrev CV:aJ:= .t 129
abbrev Hm:aJ:= .t 130
abbrev Hn:aJ:= .t 131
abbrev Ho:aJ:= .t 132
abbrev Hp:aJ:= .t 133
abbrev a79:aJ:= .t 134
abbrev Hq:aJ:= .t 135
abbrev Tb:aJ:= .t 136
abbrev Tc:aJ:= .t 137
abbrev Td:aJ:= .t 138
abbrev Te:aJ:= .t 139
abbrev Hr:aJ:= .t 140
abbrev Tf:aJ:= .t 141
abbrev Tg:aJ:= .t 142
abbrev Th:aJ:= .t 143
abbrev Ti:aJ:= .t 144
abbrev Tj:aJ:= .t 145
abbrev a81:aJ:= .t 146
abbrev aR0:aJ:= .t 147
abbrev aR1:aJ:= .t 148
abbrev a82:aJ:= .t 149
abbrev a83:aJ:= .t 150
abbrev a84:aJ:= .t 151
abbrev aR2:aJ:= .t 152
abbrev a86:aJ:= .t 153
abbrev aR3:aJ:= .t 154
abbrev a88:aJ:= .t 155
abbrev aR4:aJ:= .t 156
abbrev a89:aJ:= .t 157
abbrev aR5:aJ:= .t 158
abbrev aR6:aJ:= .t 159
abbrev aR7:aJ:= .t 160
abbrev a90:aJ:= .t 161
abbrev aR8:aJ:= .t 162
abbrev a92:aJ:= .t 163
abbrev aR9:aJ:= .t 164
abbrev a94:aJ:= .t 165
abbrev a95:aJ:= .t 166
abbrev a96:aJ:= .t 167
abbrev a97:aJ:= .t 168
abbrev a98:aJ:= .t 169
abbrev a99:aJ:= .t 170
abbrev ba0:aJ:= .t 171
abbrev ba1:aJ:= .t 172
abbrev ba2:aJ:= .t 173
abbrev ba3:aJ:= .t 174
def u6:bp:=
 ah [aE 1 (.box 26 eI),aE 2 (.alloc 48 [.str [],.str [],.str [],.bi,.bi,.bi])] (ah [aH 9 0 1,aK 10 9,aH 11 1 1,aK 12 11,aH 13 2 1,aK 14 13,aE 15 (.build [.str [],.str [],.str [],.bi,.bi,.bi] [(0,1,fl),(1,1,dU),(2,1,fr)]),aE 3 (.alloc 48 [.str [],.str [],.str [],.bi,.bi,.bi]),c8 6 3 dH] (aO (ah [bq 4 (ax 0)] (.block 0 (.loop (aO (ah [J 16 4,aH 17 3 1,aK 18 17,cK 19 18,aB 20 .lss gq e8] (aZ 20 .skip (.exit 0))) (aO (.block 1 (.region [aH 23 3 3,aK 24 23,aH 25 3 1,aK 26 25,J 27 4,cE 28 7 ik fO,b5 29 7 28,aE 30 (.et 146 7 1 [.str [],.int .i64 0,.int .i64 0,.int .i64 0,.int .i64 0,.int .i64 0,.str []] [(0,iC)]),aE 31 (.append 146 7 72 ga iN),aH 32 3 3,c8 1 32 hJ] true)) (bQ [J 21 4,aB 22 .add gM (ax 1),J 4 22])))))) (aO (ah [bq 5 (ax 0)] (.block 2 (.loop (aO (ah [J 33 5,aH 34 4 1,aK 35 34,cK 36 35,aB 37 .lss iw iO] (aZ 37 .skip (.exit 2))) (aO (.block 3 (ah [aH 40 4 1,aK 41 40,J 42 5,cE 43 4 kJ l6,b5 44 4 43,aE 6 (.alloc 113 [.str [],.str [],.bi,.bi]),c8 4 6 kK] (.region [aH 45 4 3,aK 46 45,aH 47 0 6,aK 48 47,aH 49 1 6,aK 50 49,aH 51 2 6,aK 52 51,aH 53 3 6,aK 54 53,fA 55 64 [kj],aE 56 (.build [.str [],.str [],.bi,.bi] [(0,1,nb),(1,1,iY),(2,1,lP),(3,1,mD)]),aE 57 (.et 84 4 1 [.str [],.str [],.bi,.bi] [(0,j5)]),aE 58 (.append 84 4 80 lO nc),aH 59 4 3,c8 1 59 kL] true))) (bQ [J 38 5,aB 39 .add lm (ax 1),J 5 39])))))) (aO (ah [bq 7 (ax 0)] (.block 4 (.loop (aO (ah [J 60 7,aH 61 5 1,aK 62 61,cK 63 62,aB 64 .lss nK oP] (aZ 64 .skip (.exit 4))) (aO (.block 5 (ah [aH 67 5 1,aK 68 67,J 69 7,cE 70 4 q2 oS,b5 71 4 70,aE 8 (.alloc 116 [.str [],.str [],.bi,.bi]),c8 4 8 og] (.region [aH 72 5 3,aK 73 72,aH 74 0 8,aK 75 74,aH 76 1 8,aK 77 76,aH 78 2 8,aK 79 78,fA 80 65 [wg],aH 81 3 8,aK 82 81,fA 83 65 [wh],aE 84 (.build [.str [],.str [],.bi,.bi] [(0,1,r5),(1,1,qe),(2,1,s4),(3,1,uA)]),aE 85 (.et 148 4 1 [.str [],.str [],.bi,.bi] [(0,uB)]),aE 86 (.append 148 4 80 oT x0),aH 87 5 3,c8 1 87 r6] true))) (bQ [J 65 7,aB 66 .add oR (ax 1),J 7 66])))))) (a7 [b5 88 6 3,c8 6 2 uC])))))
def QZ:List bf:=[.cell true 6 2]
theorem VT:bL bb4 Tryz.f21 1 u6 QZ=true:=by kernel_rfl
def LU:bp:=
 ah [aE 1 (.box 48 eI),b8 2] (aO (ah [aH 3 0 1,aK 4 3,bE 5 109 [hY],fz 6 5,J 7 6,bz 8 7 false 1 1,bI 9 7 false 8,dX 10 7 false 109 [eE],cc 11 7 false (.not fl),bF 12 dy cW dp,J 13 12,bz 14 13 false 2 1,bI 15 13 false 14,dX 16 13 false 109 [dH],cc 17 13 false (.not gq),bF 18 ee cW fC,J 19 18,bz 20 19 false 3 1,bI 21 19 false 20,cc 22 19 false (.len gM),b9 23 19 false .gtr gr (ax 12),bF 24 e8 cW fN,J 25 24,bz 26 25 false 4 1,bI 27 25 false 26,cc 28 25 false (.len fO),b9 29 25 false .gtr gi (ax 40),bF 30 hA cW iC,J 31 30,bz 32 31 false 5 1,bI 33 31 false 32,cc 34 31 false (.len iw),b9 35 31 false .gtr iX (ax 40),bF 36 hJ cW ki] (aZ 36 (a7 [b8 2]) .skip)) (a7 [aH 37 3 1,aK 38 37,bE 39 110 [lm,.c (.fn 111 [])],J 40 39,bz 41 40 true 4 1,bI 42 40 true 41,dX 43 40 true 112 [l6,.c (.fn 113 [])],bF 44 kI jW cB,J 45 44,bz 46 45 true 5 1,bI 47 45 true 46,dX 48 45 true 114 [mC,.c (.fn 115 [])],bF 49 lN nb cB,J 50 49,cc 51 50 true (.load true 6 jB),dX 52 50 true 116 [lo],cc 53 50 true (.iV lP),b9 54 50 true .leq pA (ax 8000),bF 55 iY kj cB,J 2 55]))
def R6:List bf:=[.t 2]
theorem W0:bL bb4 Tryz.f40 1 LU R6=true:=by kernel_rfl
def LW:bp:=
 ah [aE 1 (.box 26 eI),b8 2] (ah [bq 3 (ax 0)] (aO (ah [bq 4 (ax 0)] (.block 0 (.loop (aO (ah [J 6 4,aH 7 4 1,aK 8 7,cK 9 8,aB 10 .lss dO eE] (aZ 10 .skip (.exit 0))) (aO (.block 1 (aO (ah [aH 13 4 1,aK 14 13,J 15 4,cE 16 4 fr dH,aH 17 2 16,aK 18 17,cK 19 18,aB 20 .gtr e8 (ax 60)] (aZ 20 (a7 [b8 2]) .skip)) (bQ [J 21 3,aH 22 4 1,aK 23 22,J 24 4,cE 25 4 fN ga,aH 26 3 25,aK 27 26,bE 28 118 [fO],aB 29 .add gM gi,J 3 29]))) (bQ [J 11 4,aB 12 .add dp (ax 1),J 4 12])))))) (aO (ah [bq 5 (ax 0)] (.block 2 (.loop (aO (ah [J 30 5,aH 31 5 1,aK 32 31,cK 33 32,aB 34 .lss iN iw] (aZ 34 .skip (.exit 2))) (aO (.block 3 (.region [J 37 3,aH 38 5 1,aK 39 38,J 40 5,cE 41 4 ln kI,aH 42 2 41,aK 43 42,fA 44 119 [jW],aH 45 5 1,aK 46 45,J 47 5,cE 48 4 lO mC,aH 49 3 48,aK 50 49,fA 51 119 [iY],aB 52 .add kK lo,aB 53 .add jV lP,J 3 53] true)) (bQ [J 35 5,aB 36 .add ki (ax 1),J 5 36])))))) (a7 [J 54 3,aB 55 .leq kj (ax 500),J 56 55,bz 57 56 true 3 1,bI 58 56 true 57,cc 59 56 true (.len kL),b9 60 56 true .leq oO (ax 60),bF 61 j5 nK cB,J 62 61,bz 63 62 true 4 1,bI 64 62 true 63,cc 65 62 true (.len oQ),b9 66 62 true .leq oR (ax 60),bF 67 qd nd cB,J 68 67,bz 69 68 true 5 1,bI 70 68 true 69,cc 71 68 true (.len ng),b9 72 68 true .leq og (ax 60),bF 73 q2 r3 cB,J 2 73]))))
def R7:List bf:=[.t 2]
theorem W2:bL bb4 Tryz.f44 1 LW R7=true:=by kernel_rfl
def LY:bp:=
 ah [bq 2 (.c .bi)] (ah [bq 3 (.c .bi)] (aO (ah [bq 4 (ax 0)] (.block 0 (.loop (aO (ah [J 6 4,J 7 0,cK 8 7,aB 9 .lss dO ds] (aZ 9 .skip (.exit 0))) (aO (.block 1 (ah [J 12 0,J 13 4,cE 14 11 dU ee,b5 15 11 14,aE 5 (.alloc 178 [.int .i64 0,.str [],.int .i64 0,.str [],.str [],.str [],.int .i64 0,.bi,.int .i64 0,.bi,.bi]),c8 11 5 dH] (.region [J 16 3,aH 17 0 5,aK 18 17,aH 19 1 5,aK 20 19,aH 21 2 5,b5 22 6 21,aE 23 (.et 120 6 1 [.int .i64 0,.str [],.str [],.str [],.int .i64 0,.bi] [(0,gr)]),fA 24 65 [fN],cE 25 6 ga (ax 0),b5 26 6 25,aH 27 8 5,aK 28 27,aH 29 9 5,aK 30 29,fA 31 64 [iN],aH 32 10 5,aK 33 32,fA 34 64 [iw],aE 35 (.build [.int .i64 0,.str [],.int .i64 0,.str [],.str [],.str [],.int .i64 0,.bi,.int .i64 0,.bi,.bi] [(0,1,gh),(1,1,gL),(2,6,ik),(8,1,gi),(9,1,hJ),(10,1,iX)]),aE 36 (.et 82 11 1 [.int .i64 0,.str [],.int .i64 0,.str [],.str [],.str [],.int .i64 0,.bi,.int .i64 0,.bi,.bi] [(0,ki)]),aE 37 (.append 82 11 168 gq iO),J 3 37] true))) (bQ [J 10 4,aB 11 .add fl (ax 1),J 4 11])))))) (a7 [J 38 3,J 2 38])))
def R9:List bf:=[.t 2]
theorem W5:bL bb4 Tryz.f64 1 LY R9=true:=by kernel_rfl
def LZ:bp:=
 ah [bq 2 (.c .bi)] (ah [bq 3 (.c .bi)] (aO (ah [bq 4 (ax 0)] (.block 0 (.loop (aO (ah [J 6 4,J 7 0,cK 8 7,aB 9 .lss dO ds] (aZ 9 .skip (.exit 0))) (aO (.block 1 (ah [J 12 0,J 13 4,cE 14 6 dU ee,b5 15 6 14,aE 5 (.alloc 120 [.int .i64 0,.str [],.str [],.str [],.int .i64 0,.bi]),c8 6 5 dH] (.region [J 16 3,aH 17 0 5,aK 18 17,aH 19 1 5,aK 20 19,aH 21 2 5,aK 22 21,aH 23 3 5,aK 24 23,aH 25 4 5,aK 26 25,aH 27 5 5,aK 28 27,fA 29 65 [gi],aE 30 (.build [.int .i64 0,.str [],.str [],.str [],.int .i64 0,.bi] [(0,1,gh),(1,1,gL),(2,1,gr),(3,1,ga),(4,1,ik),(5,1,iC)]),aE 31 (.et 80 6 1 [.int .i64 0,.str [],.str [],.str [],.int .i64 0,.bi] [(0,iN)]),aE 32 (.append 80 6 88 gq hJ),J 3 32] true))) (bQ [J 10 4,aB 11 .add fl (ax 1),J 4 11])))))) (a7 [J 33 3,J 2 33])))
def Sa:List bf:=[.t 2]
theorem W6:bL bb4 Tryz.f65 1 LZ Sa=true:=by kernel_rfl
def Ek:bp:=
 ah [b8 2] (aO (ah [J 4 0,aB 5 .eql hY (bs []),J 6 5,cX 7 6 false 0,cc 8 6 false (.iV dy),b9 9 6 false .gtr ds (ax 16),bF 10 dO cW eE,J 11 10,cX 12 11 false 0,cc 13 11 false (.fQ dU (ax 0)),dX 14 11 false 145 [ee],cc 15 11 false (.not fr),bF 16 dp cW dH] (aZ 16 (a7 [b8 2]) .skip)) (aO (ah [J 17 0,aE 18 (.iV fC),bq 19 (ax 0)] (.block 0 (.loop (ah [aB 20 .lss e8 gh] (aO (aZ 20 .skip (.exit 0)) (aO (.block 1 (ah [J 21 19,J 3 21] (ah [J 22 0,J 23 3,aE 24 (.fQ gr fN),bE 25 146 [ga],fz 26 25] (aZ 26 (a7 [b8 2]) .skip)))) (bQ [aB 27 .add e8 (ax 1),J 19 27]))))))) (a7 [kB 2])))
def GG:List bf:=[.t 2]
theorem I1:bL bb4 Tryz.f76 1 Ek GG=true:=by kernel_rfl
def L2:bp:=
 ah [bq 4 (ax 0)] (aO (ah [J 6 0,cK 7 6,bq 8 (ax 0)] (.block 0 (.loop (ah [aB 9 .lss ds dy] (aO (aZ 9 .skip (.exit 0)) (aO (.block 1 (ah [J 10 8,J 5 10] (ah [J 11 1,J 12 0,J 13 5,cE 14 1 dU ee,aK 15 14,aB 16 .eql dp dH] (aZ 16 (a7 [J 17 5,J 4 17]) .skip)))) (bQ [aB 18 .add ds (ax 1),J 8 18]))))))) (a7 [bq 4 (ax (-1))]))
def Sf:List bf:=[.t 4]
theorem Xb:bL bb4 Tryz.f93 2 L2 Sf=true:=by kernel_rfl
def wW:bp:=
 ah [b8 4] (a7 [J 5 0,J 6 1,bE 7 183 [dN,dO],aB 8 .geq dy (ax 0),J 4 8])
def CB:List bf:=[.t 4]
theorem DE:bL bb4 Tryz.f96 2 wW CB=true:=by kernel_rfl
def J2:bp:=
 (.seq
 (.region [aE 2 (.gI (.c (.bool false)))] false)
 (.seq
 (.region [aE 4 (.build [.str [],.str [],.str [],.str [],.str [],.str [],.str [],.str [],.str [],.str [],.str [],.str [],.str [],.str [],.str [],.str [],.str [],.str [],.str [],.str [],.str [],.str [],.str [],.str [],.str [],.str [],.str [],.str []] [(0,1,(.c (.str [97,103,97,105,110]))),(1,1,(.c (.str [97,110,100]))),(2,1,(.c (.str [97,115]))),(3,1,(.c (.str [97,116]))),(4,1,(.c (.str [99,97,108,108]))),(5,1,(.c (.str [99,104,111,105,99,101]))),(6,1,(.c (.str [101,108,115,101]))),(7,1,(.c (.str [102,114,111,109]))),(8,1,(.c (.str [105,102]))),(9,1,(.c (.str [105,110,116]))),(10,1,(.c (.str [108,101,110]))),(11,1,(.c (.str [108,111,111,112]))),(12,1,(.c (.str [109,101,115,115,97,103,101]))),(13,1,(.c (.str [111,102]))),(14,1,(.c (.str [111,102,102,101,114]))),(15,1,(.c (.str [111,110]))),(16,1,(.c (.str [111,114]))),(17,1,(.c (.str [112,97,114]))),(18,1,(.c (.str [112,108,97,121,115]))),(19,1,(.c (.str [112,114,111,116,111,99,111,108]))),(20,1,(.c (.str [115,101,114,118,105,99,101]))),(21,1,(.c (.str [116,101,120,116]))),(22,1,(.c (.str [116,105,109,101,115]))),(23,1,(.c (.str [116,111]))),(24,1,(.c (.str [118,97,114]))),(25,1,(.c (.str [119,104,101,114,101]))),(26,1,(.c (.str [119,104,105,108,101]))),(27,1,(.c (.str [119,105,116,104,105,110])))]),aE 3 (.alloc 291 [.str [],.str [],.str [],.str [],.str [],.str [],.str [],.str [],.str [],.str [],.str [],.str [],.str [],.str [],.str [],.str [],.str [],.str [],.str [],.str [],.str [],.str [],.str [],.str [],.str [],.str [],.str [],.str []]),qL (.store 28 (.t 3) (.t 4))] false)
 (.seq
 (.region [aE 5 (.gI (.t 0)),aE 6 (.call 76 [(.t 5)]),aE 7 (.gI (.t 6)),cc 8 7 true (.xT 28 1 (.t 3)),cc 9 7 true (.gI (.t 0)),cc 10 7 true (.call 198 [(.t 8),(.t 9)]),cc 11 7 true (.not (.t 10)),aE 12 (.pick (.t 7) (.t 11) (.c (.bool false))),aE 2 (.gI (.t 12))] false)
 .ret)))
def P7:List bf:=[.t 2]
theorem U0:bL bb4 Tryz.f109 1 J2 P7=true:=by kernel_rfl
def J3:bp:=
 ah [aE 3 (.box 211 jB),b8 4] (a7 [J 5 0,aE 6 (.jJ 199 [eQ]),bE 7 162 [dN,dO],fz 8 7,J 4 8])
def P8:List bf:=[.t 4]
theorem U2:bL bb4 Tryz.f110 2 J3 P8=true:=by kernel_rfl
def J4:bp:=
 ah [aE 1 (.box 146 eI),b8 2] (ah [aH 4 1 1,b5 5 3 4,aE 3 (.alloc 87 [.int .i64 0,.int .i64 0,.int .i64 0]),c8 3 3 dN] (aO (.block 0 (ah [aH 7 0 1,aK 8 7,bE 9 109 [ds],fz 10 9,J 11 10,bz 12 11 false 1 3,bI 13 11 false 12,dX 14 11 false 200 [ee],cc 15 11 false (.not fr),bF 16 dp cW dH,J 17 16,bz 18 17 false 2 3,bI 19 17 false 18,dX 20 17 false 200 [e8],cc 21 17 false (.not gL),bF 22 fC cW gM,J 6 22] (aZ 6 (a7 [b8 2]) (ah [aH 24 0 3,aK 25 24,aB 26 .neq hA (ax 1),J 27 26,bz 28 27 true 0 3,bI 29 27 true 28,b9 30 27 true .neq iC (ax 2),cX 31 27 true 30,bz 32 31 false 1 3,bI 33 31 false 32,b9 34 31 false .lss iw (ax 0),cc 35 27 true (.pick hJ cW iX),cX 36 27 true 35,bz 37 36 false 2 3,bI 38 36 false 37,b9 39 36 false .lss lm (ax 0),cc 40 27 true (.pick iO cW ln),bF 41 fO kI cB,J 23 41] (aZ 23 (a7 [b8 2]) .skip))))) (aO (ah [aH 42 4 1,aH 43 0 42,aK 44 43] (.block 1 (ah [aB 46 .eql kK (ax 1),J 45 46] (aZ 45 (a7 [aH 47 4 1,aH 48 1 47,aK 49 48,bE 50 200 [od],J 51 50,bz 52 51 true 4 1,bz 53 51 true 2 52,bI 54 51 true 53,b9 55 51 true .eql kj (bs []),bF 56 lo mD cB,J 2 56]) (ah [aB 58 .eql kK (ax 2),J 57 58] (aZ 57 (a7 [aH 59 4 1,aH 60 1 59,aK 61 60,aB 62 .eql oe (ax 0),J 63 62,bz 64 63 true 4 1,bz 65 63 true 2 64,bI 66 63 true 65,dX 67 63 true 201 [nd],bF 68 oP pB cB,J 2 68]) .skip)))))) (a7 [b8 2]))))
def P9:List bf:=[.t 2]
theorem U3:bL bb4 Tryz.f111 1 J4 P9=true:=by kernel_rfl
def J5:bp:=
 ah [aE 3 (.box 198 jB),b8 4] (a7 [J 5 0,aE 6 (.jJ 202 [eQ]),bE 7 96 [dN,dO],fz 8 7,J 4 8])
def Qa:List bf:=[.t 4]
theorem U4:bL bb4 Tryz.f112 2 J5 Qa=true:=by kernel_rfl
def J6:bp:=
 ah [aE 1 (.box 84 eI),b8 2] (ah [bq 3 (.c (.fn 203 []))] (a7 [aH 4 0 1,aK 5 4,bE 6 205 [dN],J 7 6,bz 8 7 true 1 1,bI 9 7 true 8,dX 10 7 true 109 [eE],bF 11 dy fl cB,J 12 11,bz 13 12 true 2 1,bI 14 12 true 13,cc 15 12 true (.len fr),b9 16 12 true .leq dH (ax 4),bF 17 dU gq cB,J 18 17,bz 19 18 true 2 1,bI 20 18 true 19,dX 21 18 true 206 [gL,.c (.fn 109 [])],bF 22 gh gM cB,J 23 22,bz 24 23 true 3 1,bI 25 23 true 24,dX 26 23 true 207 [hA,.c (.fn 208 [])],bF 27 fN ik cB,J 28 27,bz 29 28 true 3 1,bI 30 28 true 29,cX 31 28 true 3,dX 32 28 true 207 [iN,hJ],bF 33 gi jn cB,J 2 33]))
def Qb:List bf:=[.t 2]
theorem U5:bL bb4 Tryz.f113 1 J6 Qb=true:=by kernel_rfl
def J7:bp:=
 ah [aE 3 (.box 213 jB),b8 4] (a7 [J 5 0,aE 6 (.jJ 210 [eQ]),bE 7 209 [dN,dO],fz 8 7,J 4 8])
def Qc:List bf:=[.t 4]
theorem U6:bL bb4 Tryz.f114 2 J7 Qc=true:=by kernel_rfl
def J8:bp:=
 ah [aE 1 (.box 148 eI),b8 2] (ah [bq 3 (.c (.fn 211 []))] (ah [aH 5 2 1,aK 6 5,aH 7 3 1,aK 8 7,aE 9 (.et 78 1 2 [.bi] [(0,dO),(1,ds)]),bE 10 213 [eE],J 4 10] (a7 [aH 11 0 1,aK 12 11,bE 13 205 [dU],J 14 13,bz 15 14 true 1 1,bI 16 14 true 15,dX 17 14 true 109 [gq],bF 18 fr fC cB,J 19 18,bz 20 19 true 2 1,bI 21 19 true 20,cc 22 19 true (.len gM),b9 23 19 true .leq gr (ax 4),bF 24 e8 fN cB,J 25 24,bz 26 25 true 3 1,bI 27 25 true 26,cc 28 25 true (.len fO),b9 29 25 true .leq gi (ax 1),bF 30 hA iC cB,J 31 30,cX 32 31 true 4,dX 33 31 true 214 [jn,.c (.fn 215 [])],bF 34 hJ iw cB,J 35 34,cX 36 35 true 4,cX 37 35 true 3,dX 38 35 true 214 [iO,jV],bF 39 ki lm cB,J 2 39])))
def Qd:List bf:=[.t 2]
theorem U7:bL bb4 Tryz.f115 1 J8 Qd=true:=by kernel_rfl
def J9:bp:=
 ah [aE 1 (.box 48 eI),bq 2 (bs [])] (ah [aE 12 (.build [.dV (.pointer none),.bi,.int .i64 0] []),aE 13 (.box 304 dU),J 3 13] (ah [J 14 3,aH 15 0 1,aK 16 15,aH 17 1 1,aK 18 17,aH 19 2 1,aK 20 19,aE 21 (.et 9 1 7 [.str []] [(0,bs [115,101,114,118,105,99,101,32]),(1,gq),(2,bs [32,112,108,97,121,115,32]),(3,gh),(4,bs [32,111,102,32]),(5,gL),(6,bs [32,123])]),bE 22 216 [fr,gM]] (ah [J 23 3,aE 24 (.gn fN),aH 25 2 24,c8 1 25 (ax 1)] (aO (ah [aH 26 3 1,aK 27 26,cK 28 27,bq 29 (ax 0)] (.block 0 (.loop (ah [aB 30 .lss iC gi] (aO (aZ 30 .skip (.exit 0)) (aO (.block 1 (ah [cE 31 7 fO iC,b5 32 7 31,aE 5 (.alloc 146 [.str [],.int .i64 0,.int .i64 0,.int .i64 0,.int .i64 0,.int .i64 0,.str []]),c8 7 5 jn] (ah [bq 6 (bs [105,110,116,32])] (aO (ah [aH 33 1 5,aH 34 0 33,aK 35 34,aB 36 .eql ki (ax 2)] (aZ 36 (bQ [bq 6 (bs [116,101,120,116,32])]) .skip)) (.region [J 37 3,aH 38 0 5,aK 39 38,J 40 6,aH 41 1 5,aH 42 1 41,aK 43 42,fA 44 217 [jW],aH 45 1 5,aH 46 2 45,aK 47 46,fA 48 217 [mC],aH 49 4 5,b5 50 3 49,fA 51 218 [iY],aE 52 (.et 9 1 10 [.str []] [(0,bs [118,97,114,32]),(1,ln),(2,bs [58,32]),(3,kI),(4,kK),(5,bs [32,46,46,32]),(6,nb),(7,bs [32,61,32]),(8,lo),(9,bs [59])]),bE 53 216 [jV,lP]] true))))) (bQ [aB 54 .add iC (ax 1),J 29 54]))))))) (aO (ah [aH 55 4 1,aK 56 55,cK 57 56,bq 58 (ax 0)] (.block 2 (.loop (ah [aB 59 .lss kL nc] (aO (aZ 59 .skip (.exit 2)) (aO (.block 3 (ah [cE 60 4 j5 kL,b5 61 4 60,aE 8 (.alloc 84 [.str [],.str [],.bi,.bi]),c8 4 8 oe] (aO (.region [J 62 3,aH 63 0 8,aK 64 63,aH 65 2 8,aK 66 65,fA 67 219 [nd,bs [44,32]],aH 68 1 8,aK 69 68,aE 70 (.et 9 1 7 [.str []] [(0,bs [111,110,32]),(1,oQ),(2,bs [40]),(3,pB),(4,bs [41,32,102,114,111,109,32]),(5,oS),(6,bs [32,123])]),bE 71 216 [qd,ng]] true) (ah [J 72 3,aH 73 3 8,aK 74 73,bE 75 220 [r3,r4]] (bQ [J 76 3,aE 77 (.et 9 1 1 [.str []] [(0,bs [125])]),bE 78 216 [q3,qe]]))))) (bQ [aB 79 .add kL (ax 1),J 58 79]))))))) (aO (ah [aH 80 5 1,aK 81 80,cK 82 81,bq 83 (ax 0)] (.block 4 (.loop (ah [aB 84 .lss uA wh] (aO (aZ 84 .skip (.exit 4)) (aO (.block 5 (ah [cE 85 4 s5 uA,b5 86 4 85,aE 10 (.alloc 148 [.str [],.str [],.bi,.bi]),c8 4 10 r6] (ah [bq 11 (bs [])] (aO (ah [aH 87 3 10,aK 88 87,cK 89 88,aB 90 .gtr uD (ax 0)] (aZ 90 (bQ [aH 91 3 10,aK 92 91,cE 93 6 x1 (ax 0),b5 94 6 93,bE 95 221 [wj],aB 96 .add (bs [32,119,104,101,114,101,32]) x2,J 11 96]) .skip)) (.region [J 97 3,aH 98 0 10,aK 99 98,aH 100 2 10,aK 101 100,fA 102 222 [xX],aH 103 1 10,aK 104 103,J 105 11,aE 106 (.et 9 1 8 [.str []] [(0,bs [111,102,102,101,114,32]),(1,Hs),(2,bs [40]),(3,xY),(4,bs [41,32,116,111,32]),(5,Ac),(6,Ad),(7,bs [59])]),bE 107 216 [CW,Ae]] true))))) (bQ [aB 108 .add uA (ax 1),J 83 108]))))))) (ah [J 109 3,aE 110 (.gn xZ),aH 111 2 110,c8 1 111 (ax 0)] (ah [J 112 3,aE 113 (.et 9 1 1 [.str []] [(0,bs [125])]),bE 114 216 [Hg,CS]] (a7 [J 115 3,aE 116 (.gn Ag),aH 117 0 116,bE 118 223 [Hi],J 2 118])))))))))
def Qe:List bf:=[.t 2]
theorem U8:bL bb4 Tryz.f116 1 J9 Qe=true:=by kernel_rfl
def Ka:bp:=
 ah [bq 2 (ax 0)] (ah [J 5 0,cK 6 5,J 3 6] (aO (ah [bq 4 (ax 0)] (.block 0 (.loop (aO (ah [J 7 4,J 8 0,cK 9 8,aB 10 .lss dy eE] (aZ 10 .skip (.exit 0))) (aO (.block 1 (.region [J 13 3,J 14 0,J 15 4,cE 16 11 fr dH,aH 17 2 16,b5 18 6 17,aE 19 (.et 120 6 1 [.int .i64 0,.str [],.str [],.str [],.int .i64 0,.bi] [(0,gh)]),fA 20 119 [e8],J 21 0,J 22 4,cE 23 11 gM gr,aH 24 9 23,aK 25 24,fA 26 118 [hA],aB 27 .add gL ik,J 28 0,J 29 4,cE 30 11 gi iC,aH 31 10 30,aK 32 31,fA 33 118 [jn],aB 34 .add fO iw,aB 35 .add ee iX,J 3 35] true)) (bQ [J 11 4,aB 12 .add dp (ax 1),J 4 12])))))) (a7 [J 36 3,J 2 36])))
def Qf:List bf:=[.t 2]
theorem U9:bL bb4 Tryz.f118 1 Ka Qf=true:=by kernel_rfl
def Kb:bp:=
 ah [bq 2 (ax 0)] (ah [J 5 0,cK 6 5,J 3 6] (aO (ah [bq 4 (ax 0)] (.block 0 (.loop (aO (ah [J 7 4,J 8 0,cK 9 8,aB 10 .lss dy eE] (aZ 10 .skip (.exit 0))) (aO (.block 1 (bQ [J 13 3,J 14 0,J 15 4,cE 16 6 fr dH,aH 17 5 16,aK 18 17,bE 19 119 [gh],aB 20 .add ee e8,J 3 20])) (bQ [J 11 4,aB 12 .add dp (ax 1),J 4 12])))))) (a7 [J 21 3,J 2 21])))
def Qg:List bf:=[.t 2]
theorem Va:bL bb4 Tryz.f119 1 Kb Qg=true:=by kernel_rfl
def Kg:bp:=
 ah [b8 2] (a7 [J 3 0,aB 4 .leq (.c (.int .u8 97)) eQ,J 5 4,cX 6 5 true 0,b9 7 5 true .leq dO (.c (.int .u8 122)),bF 8 dN dy cB,J 9 8,cX 10 9 false 0,b9 11 9 false .leq (.c (.int .u8 65)) fl,cX 12 9 false 11,cX 13 12 true 0,b9 14 12 true .leq ee (.c (.int .u8 90)),cc 15 9 false (.pick dU fr cB),bF 16 eE cW dH,J 2 16])
def Ql:List bf:=[.t 2]
theorem Vg:bL bb4 Tryz.f145 1 Kg Ql=true:=by kernel_rfl
def Kh:bp:=
 ah [b8 2] (a7 [J 3 0,bE 4 145 [eQ],J 5 4,cX 6 5 false 0,dX 7 5 false 242 [dO],bF 8 dN cW dy,J 9 8,cX 10 9 false 0,b9 11 9 false .eql fl (.c (.int .u8 95)),bF 12 eE cW dp,J 2 12])
def Qm:List bf:=[.t 2]
theorem Vh:bL bb4 Tryz.f146 1 Kh Qm=true:=by kernel_rfl
def D7:bp:=
 ah [b8 4] (a7 [J 5 0,J 6 1,bE 7 261 [dN,dO],aB 8 .geq dy (ax 0),J 4 8])
def Gv:List bf:=[.t 4]
theorem IR:bL bb4 Tryz.f162 2 D7 Gv=true:=by kernel_rfl
def Be:bp:=
 ah [bq 4 (ax 0)] (aO (ah [J 6 0,cK 7 6,bq 8 (ax 0)] (.block 0 (.loop (ah [aB 9 .lss ds dy] (aO (aZ 9 .skip (.exit 0)) (aO (.block 1 (ah [J 10 8,J 5 10] (ah [J 11 1,J 12 0,J 13 5,cE 14 4 dU ee,b5 15 4 14,aE 16 (.gj dp [dH])] (aZ 16 (a7 [J 17 5,J 4 17]) .skip)))) (bQ [aB 18 .add ds (ax 1),J 8 18]))))))) (a7 [bq 4 (ax (-1))]))
def Cu:List bf:=[.t 4]
theorem Dy:bL bb4 Tryz.f183 2 Be Cu=true:=by kernel_rfl
def KH:bp:=
 ah [b8 4] (a7 [J 5 0,J 6 1,bE 7 93 [dN,dO],aB 8 .geq dy (ax 0),J 4 8])
def QN:List bf:=[.t 4]
theorem VH:bL bb4 Tryz.f198 2 KH QN=true:=by kernel_rfl
def KI:bp:=
 ah [aE 2 (.box 146 eI),b8 3] (a7 [aK 4 1,b5 5 7 2,aE 6 (.gj hY [dN]),fz 7 6,J 3 7])
def QO:List bf:=[.t 3]
theorem VI:bL bb4 Tryz.f199 1 KI QO=true:=by kernel_rfl
def KJ:bp:=
 ah [b8 2] (a7 [J 3 0,aB 4 .geq eQ (ax (-999999)),J 5 4,cX 6 5 true 0,b9 7 5 true .leq dO (ax 999999),bF 8 dN dy cB,J 2 8])
def QP:List bf:=[.t 2]
theorem VJ:bL bb4 Tryz.f200 1 KJ QP=true:=by kernel_rfl
def KK:bp:=
 ah [b8 2] (a7 [J 3 0,aE 4 (.iV eQ),aB 5 .leq hY (ax 40),J 6 5,cX 7 6 true 0,dX 8 6 true 293 [dy,.c (.fn 294 [])],cc 9 6 true (.not ds),bF 10 dO eE cB,J 2 10])
def QQ:List bf:=[.t 2]
theorem VK:bL bb4 Tryz.f201 1 KK QQ=true:=by kernel_rfl
def KL:bp:=
 ah [aE 2 (.box 84 eI),b8 3] (a7 [aK 4 1,b5 5 4 2,aE 6 (.gj hY [dN]),fz 7 6,J 3 7])
def QR:List bf:=[.t 3]
theorem VL:bL bb4 Tryz.f202 1 KL QR=true:=by kernel_rfl
def KM:bp:=
 ah [aE 1 (.box 82 eI),b8 2] (a7 [b5 3 11 1,bE 4 204 [eQ],aB 5 .leq hY (ax 10),J 2 5])
def QS:List bf:=[.t 2]
theorem VM:bL bb4 Tryz.f203 1 KM QS=true:=by kernel_rfl
def KN:bp:=
 ah [aE 1 (.box 82 eI),bq 2 (ax 0)] (ah [aH 6 2 1,b5 7 6 6,bE 8 212 [dy],J 3 8] (aO (ah [aH 9 9 1,aK 10 9,aH 11 10 1,aK 12 11,aE 13 (.et 77 1 2 [.bi] [(0,fl),(1,dU)]),bE 14 295 [ee],cK 15 14,bq 16 (ax 0)] (.block 0 (.loop (ah [aB 17 .lss gq dH] (aO (aZ 17 .skip (.exit 0)) (aO (.block 1 (ah [cE 18 11 fr gq,b5 19 11 18,aE 5 (.alloc 82 [.int .i64 0,.str [],.int .i64 0,.str [],.str [],.str [],.int .i64 0,.bi,.int .i64 0,.bi,.bi]),c8 11 5 e8] (bQ [J 20 3,b5 21 11 5,bE 22 204 [gM],aE 23 (.kf true [gL,gr]),J 3 23]))) (bQ [aB 24 .add gq (ax 1),J 16 24]))))))) (a7 [J 25 3,aB 26 .add (ax 1) hA,J 2 26])))
def QT:List bf:=[.t 2]
theorem VN:bL bb4 Tryz.f204 1 KN QT=true:=by kernel_rfl
def KO:bp:=
 ah [b8 2] (a7 [J 3 0,aE 4 (.iV eQ),aB 5 .leq hY (ax 50),J 6 5,cX 7 6 true 0,dX 8 6 true 297 [dy,bs [46]],dX 9 6 true 296 [ds,.c (.fn 298 [])],cc 10 6 true (.not eE),bF 11 dO fl cB,J 2 11])
def QU:List bf:=[.t 2]
theorem VO:bL bb4 Tryz.f205 1 KO QU=true:=by kernel_rfl
def KP:bp:=
 ah [aE 3 (.box 174 jB),b8 4] (a7 [J 5 0,aE 6 (.jJ 299 [eQ]),bE 7 296 [dN,dO],fz 8 7,J 4 8])
def QV:List bf:=[.t 4]
theorem VP:bL bb4 Tryz.f206 2 KP QV=true:=by kernel_rfl
def KQ:bp:=
 ah [aE 3 (.box 293 jB),b8 4] (a7 [J 5 0,aE 6 (.jJ 301 [eQ]),bE 7 300 [dN,dO],fz 8 7,J 4 8])
def QW:List bf:=[.t 4]
theorem VQ:bL bb4 Tryz.f207 2 KQ QW=true:=by kernel_rfl
def KR:bp:=
 ah [aE 1 (.box 82 eI),b8 2] (aO (ah [aH 3 0 1,aK 4 3] (.block 0 (ah [aB 6 .eql hY (ax 1),J 5 6] (aZ 5 (ah [aH 7 1 1,aK 8 7,bE 9 109 [ds],fz 10 9,J 11 10,bz 12 11 false 8 1,bI 13 11 false 12,b9 14 11 false .neq ee (ax 0),bF 15 dp cW fr,J 16 15,bz 17 16 false 9 1,bI 18 16 false 17,cc 19 16 false (.len gh),b9 20 16 false .gtr e8 (ax 0),bF 21 gq cW gL,J 22 21,bz 23 22 false 10 1,bI 24 22 false 23,cc 25 22 false (.len ga),b9 26 22 false .gtr hA (ax 0),bF 27 gr cW ik] (aZ 27 (a7 [b8 2]) .skip)) (ah [aB 29 .eql hY (ax 2),J 28 29] (aZ 28 (ah [aH 30 1 1,aK 31 30,aB 32 .neq hJ (bs []),J 33 32,bz 34 33 false 8 1,bI 35 33 false 34,b9 36 33 false .neq ki (ax 0),bF 37 iw cW iO] (aZ 37 (a7 [b8 2]) .skip)) (ah [aB 39 .eql hY (ax 3),J 38 39] (aZ 38 (ah [aH 40 1 1,aK 41 40,aB 42 .neq kJ (bs []),J 43 42,bz 44 43 false 8 1,bI 45 43 false 44,b9 46 43 false .lss lN (ax 1),bF 47 jW cW lO,J 48 47,bz 49 48 false 8 1,bI 50 48 false 49,b9 51 48 false .gtr iY (ax 50),bF 52 nb cW lo,J 53 52,bz 54 53 false 10 1,bI 55 53 false 54,cc 56 53 false (.len mD),b9 57 53 false .gtr j5 (ax 0),bF 58 pA cW nc] (aZ 58 (a7 [b8 2]) .skip)) (a7 [b8 2]))))))))) (a7 [aH 59 2 1,b5 60 6 59,bE 61 215 [nK],J 62 61,bz 63 62 true 9 1,bI 64 62 true 63,dX 65 62 true 207 [oQ,.c (.fn 208 [])],bF 66 qd oR cB,J 67 66,bz 68 67 true 10 1,bI 69 67 true 68,dX 70 67 true 207 [oS,.c (.fn 208 [])],bF 71 pB ng cB,J 2 71]))
def QX:List bf:=[.t 2]
theorem VR:bL bb4 Tryz.f208 1 KR QX=true:=by kernel_rfl
def KS:bp:=
 ah [b8 4] (a7 [J 5 0,J 6 1,bE 7 302 [dN,dO],aB 8 .geq dy (ax 0),J 4 8])
def QY:List bf:=[.t 4]
theorem VS:bL bb4 Tryz.f209 2 KS QY=true:=by kernel_rfl
def KT:bp:=
 ah [aE 2 (.box 148 eI),b8 3] (a7 [aK 4 1,b5 5 4 2,aE 6 (.gj hY [dN]),fz 7 6,J 3 7])
def Q0:List bf:=[.t 3]
theorem VU:bL bb4 Tryz.f210 1 KT Q0=true:=by kernel_rfl
def KU:bp:=
 ah [aE 1 (.box 80 eI),b8 2] (a7 [b5 3 6 1,bE 4 212 [eQ],aB 5 .leq hY (ax 10),J 2 5])
def Q1:List bf:=[.t 2]
theorem VV:bL bb4 Tryz.f211 1 KU Q1=true:=by kernel_rfl
def KV:bp:=
 ah [aE 1 (.box 80 eI),bq 2 (ax 0)] (ah [bq 3 (ax 0)] (aO (ah [aH 6 5 1,aK 7 6,cK 8 7,bq 9 (ax 0)] (.block 0 (.loop (ah [aB 10 .lss eE ds] (aO (aZ 10 .skip (.exit 0)) (aO (.block 1 (ah [cE 11 6 dy eE,b5 12 6 11,aE 5 (.alloc 80 [.int .i64 0,.str [],.str [],.str [],.int .i64 0,.bi]),c8 6 5 dU] (bQ [J 13 3,b5 14 6 5,bE 15 212 [fr],aE 16 (.kf true [ee,dH]),J 3 16]))) (bQ [aB 17 .add eE (ax 1),J 9 17]))))))) (a7 [J 18 3,aB 19 .add (ax 1) gh,J 2 19])))
def Q2:List bf:=[.t 2]
theorem VW:bL bb4 Tryz.f212 1 KV Q2=true:=by kernel_rfl
def KW:bp:=
 ah [bq 2 (.c .bi)] (ah [bq 3 (ax 0)] (aO (ah [J 9 0,cK 10 9,bq 11 (ax 0)] (.block 0 (.loop (ah [aB 12 .lss dp fl] (aO (aZ 12 .skip (.exit 0)) (aO (.block 1 (ah [cE 13 1 eE dp,aK 14 13,J 5 14] (ah [J 15 3,J 16 5,cK 17 16,aB 18 .add dH fC,J 3 18] (ah [J 19 3,aB 20 .lss e8 (ax 0)] (aZ 20 (bQ [aE 21 (.pj 9 (bs [108,101,110,32,111,117,116,32,111,102,32,114,97,110,103,101])),qL (.panic gM)]) .skip))))) (bQ [aB 22 .add dp (ax 1),J 11 22]))))))) (ah [J 23 3,bE 24 303 [.c .bi,fN],J 6 24] (aO (ah [J 25 0,cK 26 25,bq 27 (ax 0)] (.block 2 (.loop (ah [aB 28 .lss fO ik] (aO (aZ 28 .skip (.exit 2)) (aO (.block 3 (ah [cE 29 1 hA fO,aK 30 29,J 8 30] (bQ [J 31 6,J 32 8,aE 33 (.append 80 6 88 hJ jn),J 6 33]))) (bQ [aB 34 .add fO (ax 1),J 27 34]))))))) (a7 [J 35 6,J 2 35])))))
def Q3:List bf:=[.t 2]
theorem VX:bL bb4 Tryz.f213 1 KW Q3=true:=by kernel_rfl
def KX:bp:=
 ah [aE 3 (.box 296 jB),b8 4] (a7 [J 5 0,aE 6 (.jJ 305 [eQ]),bE 7 304 [dN,dO],fz 8 7,J 4 8])
def Q4:List bf:=[.t 4]
theorem VY:bL bb4 Tryz.f214 2 KX Q4=true:=by kernel_rfl
def KY:bp:=
 ah [aE 1 (.box 80 eI),b8 2] (ah [aH 5 0 1,aK 6 5,aH 7 5 1,aK 8 7,aE 9 (.build [.int .i64 0,.str [],.str [],.str [],.int .i64 0,.bi] [(0,1,dO),(5,1,ds)]),aE 3 (.alloc 80 [.int .i64 0,.str [],.str [],.str [],.int .i64 0,.bi]),c8 6 3 eE] (ah [bq 4 (ax 0)] (aO (ah [aH 10 0 1,aK 11 10] (.block 0 (ah [aB 13 .eql dp (ax 1),J 12 13] (aZ 12 (ah [aH 14 4 1,aK 15 14,aH 16 4 3,c8 1 16 dH] (ah [aH 17 4 1,aK 18 17,aB 19 .lss gh (ax 0),J 20 19,bz 21 20 false 4 1,bI 22 20 false 21,b9 23 20 false .gtr gr (ax 1000),bF 24 gL cW fN] (aZ 24 (a7 [b8 2]) .skip))) (ah [aB 26 .eql dp (ax 2),J 25 26] (aZ 25 (ah [aH 27 3 1,aK 28 27,aH 29 3 3,c8 1 29 gi] (ah [aH 30 3 1,aK 31 30,bE 32 201 [hJ],fz 33 32] (aZ 33 (a7 [b8 2]) .skip))) (ah [aB 35 .eql dp (ax 3),J 34 35] (aZ 34 (ah [aH 36 2 1,aK 37 36,aH 38 2 3,c8 1 38 jV] (ah [aH 39 2 1,aK 40 39,bE 41 109 [kI],fz 42 41] (aZ 42 (a7 [b8 2]) .skip))) (ah [aB 44 .eql dp (ax 4),J 43 44] (aZ 43 (bQ [bq 4 (ax 1)]) (ah [aB 46 .eql dp (ax 5),J 45 46] (aZ 45 (ah [aH 47 1 1,aK 48 47,aH 49 1 3,c8 1 49 nb,bq 4 (ax 1)] (ah [aH 50 1 1,aK 51 50,aB 52 .neq lo (bs [45]),J 53 52,bz 54 53 true 1 1,bI 55 53 true 54,b9 56 53 true .neq mD (bs [33]),bF 57 pA j5 cB] (aZ 57 (a7 [b8 2]) .skip))) (ah [aB 59 .eql dp (ax 6),J 58 59] (aZ 58 (ah [aH 60 1 1,aK 61 60,aH 62 1 3,c8 1 62 oe,bq 4 (ax 2)] (ah [aH 63 1 1,aK 64 63,bE 65 306 [oQ],aB 66 .eql oR (ax 0)] (aZ 66 (a7 [b8 2]) .skip))) (a7 [b8 2]))))))))))))))) (a7 [aH 67 5 1,aK 68 67,cK 69 68,J 70 4,aB 71 .eql oS ng,J 72 71,bz 73 72 true 1 1,bI 74 72 true 73,bz 75 72 true 1 3,bI 76 72 true 75,b9 77 72 true .eql r4 q3,bF 78 r3 qe cB,J 79 78,bz 80 79 true 2 1,bI 81 79 true 80,bz 82 79 true 2 3,bI 83 79 true 82,b9 84 79 true .eql s5 uA,bF 85 wg uB cB,J 86 85,bz 87 86 true 3 1,bI 88 86 true 87,bz 89 86 true 3 3,bI 90 86 true 89,b9 91 86 true .eql uC Ai,bF 92 r6 uE cB,J 93 92,bz 94 93 true 4 1,bI 95 93 true 94,bz 96 93 true 4 3,bI 97 93 true 96,b9 98 93 true .eql x2 CW,bF 99 wi CX cB,J 100 99,bz 101 100 true 5 1,bI 102 100 true 101,dX 103 100 true 214 [xY,.c (.fn 215 [])],bF 104 Ab CQ cB,J 2 104]))))
def Q5:List bf:=[.t 2]
theorem VZ:bL bb4 Tryz.f215 1 KY Q5=true:=by kernel_rfl
def KZ:bp:=
 aO (.region [J 6 0,aE 7 (.gn dO),aH 8 0 7,J 9 0,aE 10 (.gn eE),aH 11 2 10,aK 12 11,fA 13 308 [bs [9],dU],bE 14 307 [ds,ee]] true) (aO (ah [J 15 1,cK 16 15,bq 17 (ax 0)] (.block 0 (.loop (ah [aB 18 .lss fC gq] (aO (aZ 18 .skip (.exit 0)) (aO (.block 1 (ah [cE 19 1 dH fC,aK 20 19,J 5 20] (bQ [J 21 0,aE 22 (.gn gM),aH 23 0 22,J 24 5,bE 25 307 [fN,ga]]))) (bQ [aB 26 .add fC (ax 1),J 17 26]))))))) (bQ [J 27 0,aE 28 (.gn fO),aH 29 0 28,bE 30 309 [iC,.c (.int .u8 10)]]))
def Q6:List bf:=[]
theorem V0:bL bb4 Tryz.f216 2 KZ Q6=true:=by kernel_rfl
def K0:bp:=
 ah [aE 1 (.box 89 eI),bq 2 (bs [])] (aO (ah [aH 3 0 1,aK 4 3,aB 5 .eql hY (ax 2)] (aZ 5 (a7 [aH 6 2 1,aK 7 6,bE 8 311 [dy],J 2 8]) .skip)) (a7 [aH 9 1 1,aK 10 9,bE 11 217 [fl],J 2 11]))
def Q7:List bf:=[.t 2]
theorem V1:bL bb4 Tryz.f218 1 K0 Q7=true:=by kernel_rfl
def K1:bp:=
 ah [J 6 0,aE 7 (.gn dO),aH 8 2 7,aK 9 8,aB 10 .add eE (ax 1),aE 11 (.gn dO),aH 12 2 11,c8 1 12 fl] (aO (ah [J 13 1,cK 14 13,bq 15 (ax 0)] (.block 0 (.loop (ah [aB 16 .lss dH fr] (aO (aZ 16 .skip (.exit 0)) (aO (.block 1 (ah [cE 17 11 ee dH,b5 18 11 17,aE 5 (.alloc 82 [.int .i64 0,.str [],.int .i64 0,.str [],.str [],.str [],.int .i64 0,.bi,.int .i64 0,.bi,.bi]),c8 11 5 gh] (bQ [J 19 0,b5 20 11 5,bE 21 313 [e8,gL]]))) (bQ [aB 22 .add dH (ax 1),J 15 22]))))))) (bQ [J 23 0,aE 24 (.gn fN),aH 25 2 24,aK 26 25,aB 27 .sub ik (ax 1),aE 28 (.gn fN),aH 29 2 28,c8 1 29 fO]))
def Q8:List bf:=[]
theorem V2:bL bb4 Tryz.f220 2 K1 Q8=true:=by kernel_rfl
def Ed:bp:=
 ah [aE 1 (.box 80 eI),bq 2 (bs [])] (aO (ah [aH 4 0 1,aK 5 4] (.block 0 (ah [aB 7 .eql dN (ax 1),J 6 7] (aZ 6 (a7 [aH 8 4 1,aK 9 8,bE 10 217 [eE],J 2 10]) (ah [aB 12 .eql dN (ax 2),J 11 12] (aZ 11 (a7 [aH 13 3 1,aK 14 13,bE 15 311 [fr],J 2 15]) (ah [aB 17 .eql dN (ax 3),J 16 17] (aZ 16 (a7 [aH 18 2 1,aK 19 18,J 2 19]) (ah [aB 21 .eql dN (ax 4),J 20 21] (aZ 20 (a7 [aH 22 5 1,aK 23 22,cE 24 6 fN (ax 0),b5 25 6 24,bE 26 221 [hA],aB 27 .add (bs [108,101,110,40]) ik,aB 28 .add fO (bs [41]),J 2 28]) (ah [aB 30 .eql dN (ax 5),J 29 30] (aZ 29 (aO (.region [aH 31 1 1,aK 32 31,aH 33 5 1,aK 34 33,cE 35 6 iX (ax 0),b5 36 6 35,fA 37 314 [iO,ax 7],aB 38 .add jn jV,J 2 38] true) .ret) .skip)))))))))))) (ah [aH 39 1 1,aK 40 39,bE 41 306 [kI],J 3 41] (aO (.region [aH 42 5 1,aK 43 42,cE 44 6 jW (ax 0),b5 45 6 44,J 46 3,fA 47 314 [lN,lO],aB 48 .add mC (bs [32]),aH 49 1 1,aK 50 49,aB 51 .add nb iY,aB 52 .add lo (bs [32]),aH 53 5 1,aK 54 53,cE 55 6 kj (ax 1),b5 56 6 55,J 57 3,aB 58 .add nc (ax 1),fA 59 314 [j5,kL],aB 60 .add lP oO,J 2 60] true) .ret)))
def Q9:List bf:=[.t 2]
theorem V3:bL bb4 Tryz.f221 1 Ed Q9=true:=by kernel_rfl
def K2:bp:=
 ah [bq 2 (bs [])] (ah [bq 3 (.c .bi)] (aO (ah [J 6 0,cK 7 6,bq 8 (ax 0)] (.block 0 (.loop (ah [aB 9 .lss ds dy] (aO (aZ 9 .skip (.exit 0)) (aO (.block 1 (ah [cE 10 6 dO ds,b5 11 6 10,aE 5 (.alloc 80 [.int .i64 0,.str [],.str [],.str [],.int .i64 0,.bi]),c8 6 5 dp] (bQ [J 12 3,b5 13 6 5,bE 14 221 [ee],aE 15 (.et 9 1 1 [.str []] [(0,fr)]),aE 16 (.append 9 1 16 dU dH),J 3 16]))) (bQ [aB 17 .add ds (ax 1),J 8 17]))))))) (a7 [J 18 3,bE 19 219 [gh,bs [44,32]],J 2 19])))
def Ra:List bf:=[.t 2]
theorem V4:bL bb4 Tryz.f222 1 K2 Ra=true:=by kernel_rfl
def Ee:bp:=
 ah [bq 4 (ax 0)] (aO (ah [J 6 0,cK 7 6,bq 8 (ax 0)] (.block 0 (.loop (ah [aB 9 .lss ds dy] (aO (aZ 9 .skip (.exit 0)) (aO (.block 1 (ah [J 10 8,J 5 10] (ah [J 11 1,J 12 0,J 13 5,cE 14 7 dU ee,b5 15 7 14,aE 16 (.gj dp [dH])] (aZ 16 (a7 [J 17 5,J 4 17]) .skip)))) (bQ [aB 18 .add ds (ax 1),J 8 18]))))))) (a7 [bq 4 (ax (-1))]))
def GA:List bf:=[.t 4]
theorem IW:bL bb4 Tryz.f261 2 Ee GA=true:=by kernel_rfl
def Lm:bp:=
 (.seq
 (.region [aE 2 (.gI (.c (.bool false)))] false)
 (.seq
 (.region [aE 3 (.gI (.t 0)),aE 4 (.bin .lss (.t 3) (.c (.int .i32 32))),aE 5 (.gI (.t 4)),cc 6 5 false (.gI (.t 0)),cc 7 5 false (.bin .gtr (.t 6) (.c (.int .i32 126))),aE 8 (.pick (.t 5) (.c (.bool true)) (.t 7)),aE 2 (.gI (.t 8))] false)
 .ret))
def Rv:List bf:=[.t 2]
theorem Wo:bL bb4 Tryz.f294 1 Lm Rv=true:=by kernel_rfl
def Ln:bp:=
 ah [bq 2 (.c .bi)] (ah [bq 3 (ax 0)] (aO (ah [J 9 0,cK 10 9,bq 11 (ax 0)] (.block 0 (.loop (ah [aB 12 .lss dp fl] (aO (aZ 12 .skip (.exit 0)) (aO (.block 1 (ah [cE 13 1 eE dp,aK 14 13,J 5 14] (ah [J 15 3,J 16 5,cK 17 16,aB 18 .add dH fC,J 3 18] (ah [J 19 3,aB 20 .lss e8 (ax 0)] (aZ 20 (bQ [aE 21 (.pj 9 (bs [108,101,110,32,111,117,116,32,111,102,32,114,97,110,103,101])),qL (.panic gM)]) .skip))))) (bQ [aB 22 .add dp (ax 1),J 11 22]))))))) (ah [J 23 3,bE 24 355 [.c .bi,fN],J 6 24] (aO (ah [J 25 0,cK 26 25,bq 27 (ax 0)] (.block 2 (.loop (ah [aB 28 .lss fO ik] (aO (aZ 28 .skip (.exit 2)) (aO (.block 3 (ah [cE 29 1 hA fO,aK 30 29,J 8 30] (bQ [J 31 6,J 32 8,aE 33 (.append 82 11 168 hJ jn),J 6 33]))) (bQ [aB 34 .add fO (ax 1),J 27 34]))))))) (a7 [J 35 6,J 2 35])))))
def Rw:List bf:=[.t 2]
theorem Wp:bL bb4 Tryz.f295 1 Ln Rw=true:=by kernel_rfl
def Eg:bp:=
 ah [b8 4] (a7 [J 5 0,J 6 1,bE 7 356 [dN,dO],aB 8 .geq dy (ax 0),J 4 8])
def GC:List bf:=[.t 4]
theorem IY:bL bb4 Tryz.f296 2 Eg GC=true:=by kernel_rfl
def Lo:bp:=
 ah [b8 2] (a7 [J 3 0,bE 4 109 [eQ],fz 5 4,J 2 5])
def Rx:List bf:=[.t 2]
theorem Wq:bL bb4 Tryz.f298 1 Lo Rx=true:=by kernel_rfl
def Lp:bp:=
 ah [b8 3] (a7 [aK 4 1,J 5 0,aE 6 (.gj hY [dN]),fz 7 6,J 3 7])
def Ry:List bf:=[.t 3]
theorem Wr:bL bb4 Tryz.f299 1 Lp Ry=true:=by kernel_rfl
def Lr:bp:=
 ah [b8 4] (a7 [J 5 0,J 6 1,bE 7 358 [dN,dO],aB 8 .geq dy (ax 0),J 4 8])
def RA:List bf:=[.t 4]
theorem Wt:bL bb4 Tryz.f300 2 Lr RA=true:=by kernel_rfl
def Ls:bp:=
 ah [aE 2 (.box 82 eI),b8 3] (a7 [aK 4 1,b5 5 11 2,aE 6 (.gj hY [dN]),fz 7 6,J 3 7])
def RB:List bf:=[.t 3]
theorem Wu:bL bb4 Tryz.f301 1 Ls RB=true:=by kernel_rfl
def Lt:bp:=
 ah [bq 4 (ax 0)] (aO (ah [J 6 0,cK 7 6,bq 8 (ax 0)] (.block 0 (.loop (ah [aB 9 .lss ds dy] (aO (aZ 9 .skip (.exit 0)) (aO (.block 1 (ah [J 10 8,J 5 10] (ah [J 11 1,J 12 0,J 13 5,cE 14 4 dU ee,b5 15 4 14,aE 16 (.gj dp [dH])] (aZ 16 (a7 [J 17 5,J 4 17]) .skip)))) (bQ [aB 18 .add ds (ax 1),J 8 18]))))))) (a7 [bq 4 (ax (-1))]))
def RC:List bf:=[.t 4]
theorem Wv:bL bb4 Tryz.f302 2 Lt RC=true:=by kernel_rfl
def Lu:bp:=
 ah [b8 4] (a7 [J 5 0,J 6 1,bE 7 359 [dN,dO],aB 8 .geq dy (ax 0),J 4 8])
def RD:List bf:=[.t 4]
theorem Ww:bL bb4 Tryz.f304 2 Lu RD=true:=by kernel_rfl
def Lv:bp:=
 ah [aE 2 (.box 80 eI),b8 3] (a7 [aK 4 1,b5 5 6 2,aE 6 (.gj hY [dN]),fz 7 6,J 3 7])
def RE:List bf:=[.t 3]
theorem Wx:bL bb4 Tryz.f305 1 Lv RE=true:=by kernel_rfl
def Lw:bp:=
 ah [bq 2 (ax 0)] (aO (ah [J 3 0] (.block 0 (ah [aB 5 .eql eQ (bs [124,124]),J 4 5] (aZ 4 (a7 [bq 2 (ax 1)]) (ah [aB 7 .eql eQ (bs [38,38]),J 6 7] (aZ 6 (a7 [bq 2 (ax 2)]) (aO (ah [aB 9 .eql eQ (bs [61,61]),J 8 9] (aZ 8 .skip (bQ [aB 10 .eql eQ (bs [33,61]),J 8 10]))) (aZ 8 (a7 [bq 2 (ax 3)]) (aO (ah [aB 12 .eql eQ (bs [60]),J 11 12] (aZ 11 .skip (ah [aB 13 .eql eQ (bs [60,61]),J 11 13] (aZ 11 .skip (ah [aB 14 .eql eQ (bs [62]),J 11 14] (aZ 11 .skip (bQ [aB 15 .eql eQ (bs [62,61]),J 11 15]))))))) (aZ 11 (a7 [bq 2 (ax 4)]) (aO (ah [aB 17 .eql eQ (bs [43]),J 16 17] (aZ 16 .skip (bQ [aB 18 .eql eQ (bs [45]),J 16 18]))) (aZ 16 (a7 [bq 2 (ax 5)]) (aO (ah [aB 20 .eql eQ (bs [42]),J 19 20] (aZ 19 .skip (ah [aB 21 .eql eQ (bs [47]),J 19 21] (aZ 19 .skip (bQ [aB 22 .eql eQ (bs [37]),J 19 22]))))) (aZ 19 (a7 [bq 2 (ax 6)]) .skip)))))))))))))) (a7 [bq 2 (ax 0)]))
def RF:List bf:=[.t 2]
theorem Wy:bL bb4 Tryz.f306 1 Lw RF=true:=by kernel_rfl
def Lx:bp:=
 ah [bq 4 (ax 0),bq 5 (.c (.dV .nilIface))] (ah [J 6 0,bE 7 360 [dO]] (ah [J 8 0,J 9 0,aE 10 (.gn eE),aH 11 1 10,aK 12 11,J 13 1,aE 14 (.append 5 1 1 dU ee),aE 15 (.gn ds),aH 16 1 15,c8 1 16 fr] (a7 [J 17 1,aE 18 (.iV fC),J 4 18,bq 5 (.c (.dV .nilIface))])))
def RG:List bf:=[.t 4,.t 5]
theorem Wz:bL bb4 Tryz.f307 2 Lx RG=true:=by kernel_rfl
def Ly:bp:=
 ah [bq 4 (.c (.dV .nilIface))] (ah [J 5 0,bE 6 360 [dN]] (ah [J 7 0,J 8 0,aE 9 (.gn ds),aH 10 1 9,aK 11 10,J 12 1,aE 13 (.et 5 1 1 [.int .u8 0] [(0,dU)]),aE 14 (.append 5 1 1 dp ee),aE 15 (.gn dy),aH 16 1 15,c8 1 16 fr] (a7 [bq 4 (.c (.dV .nilIface))])))
def RH:List bf:=[.t 4]
theorem WA:bL bb4 Tryz.f309 2 Ly RH=true:=by kernel_rfl
def Lz:bp:=
 ah [bq 2 (bs [])] (ah [aE 3 (.alloc 302 [.dV (.pointer none),.bi])] (ah [bE 5 309 [eQ,.c (.int .u8 34)]] (aO (ah [J 6 0,aE 7 (.iV dO),bq 8 (ax 0)] (.block 0 (.loop (ah [aB 9 .lss ds dy] (aO (aZ 9 .skip (.exit 0)) (aO (.block 1 (ah [J 10 8,J 4 10] (aO (ah [J 11 0,J 12 4,aE 13 (.fQ dp dU),aB 14 .eql ee (.c (.int .u8 34)),J 15 14,cX 16 15 false 0,cX 17 15 false 4,cc 18 15 false (.fQ gq fC),b9 19 15 false .eql gh (.c (.int .u8 92)),bF 20 dH cW e8] (aZ 20 (bQ [bE 21 309 [eQ,.c (.int .u8 92)]]) .skip)) (bQ [J 22 0,J 23 4,aE 24 (.fQ gr fN),bE 25 309 [eQ,ga]])))) (bQ [aB 26 .add ds (ax 1),J 8 26]))))))) (ah [bE 27 309 [eQ,.c (.int .u8 34)]] (a7 [bE 28 223 [eQ],J 2 28])))))
def RJ:List bf:=[.t 2]
theorem WC:bL bb4 Tryz.f311 1 Lz RJ=true:=by kernel_rfl
def Bh:bp:=
 ah [aE 3 (.box 82 jB)] (ah [aH 5 0 3,aK 6 5] (.block 0 (ah [aB 49 .eql dO (ax 1),J 48 49] (aZ 48 (.region [J 50 0,aH 51 1 3,aK 52 51,aH 53 2 3,b5 54 6 53,fA 55 221 [kj],aE 56 (.et 9 1 4 [.str []] [(0,lP),(1,bs [32,61,32]),(2,mD),(3,bs [59])]),bE 57 216 [iY,j5]] true) (ah [aB 59 .eql dO (ax 3),J 58 59] (aZ 58 (aO (.region [J 60 0,aH 61 2 3,b5 62 6 61,fA 63 221 [qd],aH 64 8 3,aK 65 64,fA 66 217 [oR],aE 67 (.et 9 1 5 [.str []] [(0,bs [119,104,105,108,101,32]),(1,oP),(2,bs [32,116,105,109,101,115,32]),(3,nd),(4,bs [32,123])]),bE 68 216 [nK,pB]] true) (ah [J 69 0,aH 70 9 3,aK 71 70,bE 72 220 [oS,og]] (bQ [J 73 0,aE 74 (.et 9 1 1 [.str []] [(0,bs [125])]),bE 75 216 [oT,r4]]))) (ah [bq 4 (bs [105,102,32])] (aO (.block 1 (.loop (.block 2 (ah [J 7 0,J 8 4,aH 9 2 3,b5 10 6 9,bE 11 221 [fl],aE 12 (.et 9 1 3 [.str []] [(0,ds),(1,dp),(2,bs [32,123])]),bE 13 216 [dy,dU]] (ah [J 14 0,aH 15 9 3,aK 16 15,bE 17 220 [fr,gq]] (aO (ah [aH 18 10 3,aK 19 18,cK 20 19,aB 21 .neq gL (ax 1),J 22 21,bz 23 22 false 10 3,bI 24 22 false 23,cc 25 22 false (.hV 11 ga (ax 0)),bz 26 22 false 0 25,bI 27 22 false 26,b9 28 22 false .neq fO (ax 2),bF 29 gr cW gi] (aZ 29 (.exit 1) .skip)) (bQ [aH 30 10 3,aK 31 30,cE 32 11 hJ (ax 0),b5 33 11 32,c8 11 3 iw,bq 4 (bs [125,32,101,108,115,101,32,105,102,32])]))))))) (aO (ah [aH 34 10 3,aK 35 34,cK 36 35,aB 37 .gtr iO (ax 0)] (aZ 37 (ah [J 38 0,aE 39 (.et 9 1 1 [.str []] [(0,bs [125,32,101,108,115,101,32,123])]),bE 40 216 [lm,ln]] (bQ [J 41 0,aH 42 10 3,aK 43 42,bE 44 220 [kJ,jW]])) .skip)) (bQ [J 45 0,aE 46 (.et 9 1 1 [.str []] [(0,bs [125])]),bE 47 216 [lN,lO]]))))))))))
def Cy:List bf:=[]
theorem DC:bL bb4 Tryz.f313 2 Bh Cy=true:=by kernel_rfl
def Bi:bp:=
 ah [aE 2 (.box 80 eI),bq 4 (bs [])] (aO (ah [aH 5 0 2,aK 6 5,aB 7 .eql dO (ax 6),J 8 7,bz 9 8 true 1 2,bI 10 8 true 9,dX 11 8 true 306 [fl],cX 12 8 true 1,b9 13 8 true .lss dp dU,bF 14 ds ee cB] (aZ 14 (a7 [b5 15 6 2,bE 16 221 [dH],aB 17 .add (bs [40]) gq,aB 18 .add fC (bs [41]),J 4 18]) .skip)) (a7 [b5 19 6 2,bE 20 221 [e8],J 4 20]))
def Cz:List bf:=[.t 4]
theorem DD:bL bb4 Tryz.f314 2 Bi Cz=true:=by kernel_rfl
def Ei:bp:=
 ah [bq 4 (ax 0)] (aO (ah [J 6 0,cK 7 6,bq 8 (ax 0)] (.block 0 (.loop (ah [aB 9 .lss ds dy] (aO (aZ 9 .skip (.exit 0)) (aO (.block 1 (ah [J 10 8,J 5 10] (ah [J 11 1,J 12 0,J 13 5,cE 14 1 dU ee,aK 15 14,aE 16 (.gj dp [dH])] (aZ 16 (a7 [J 17 5,J 4 17]) .skip)))) (bQ [aB 18 .add ds (ax 1),J 8 18]))))))) (a7 [bq 4 (ax (-1))]))
def GF:List bf:=[.t 4]
theorem I0:bL bb4 Tryz.f356 2 Ei GF=true:=by kernel_rfl
def LI:bp:=
 ah [bq 4 (ax 0)] (aO (ah [J 6 0,cK 7 6,bq 8 (ax 0)] (.block 0 (.loop (ah [aB 9 .lss ds dy] (aO (aZ 9 .skip (.exit 0)) (aO (.block 1 (ah [J 10 8,J 5 10] (ah [J 11 1,J 12 0,J 13 5,cE 14 11 dU ee,b5 15 11 14,aE 16 (.gj dp [dH])] (aZ 16 (a7 [J 17 5,J 4 17]) .skip)))) (bQ [aB 18 .add ds (ax 1),J 8 18]))))))) (a7 [bq 4 (ax (-1))]))
def RU:List bf:=[.t 4]
theorem WN:bL bb4 Tryz.f358 2 LI RU=true:=by kernel_rfl
def LJ:bp:=
 ah [bq 4 (ax 0)] (aO (ah [J 6 0,cK 7 6,bq 8 (ax 0)] (.block 0 (.loop (ah [aB 9 .lss ds dy] (aO (aZ 9 .skip (.exit 0)) (aO (.block 1 (ah [J 10 8,J 5 10] (ah [J 11 1,J 12 0,J 13 5,cE 14 6 dU ee,b5 15 6 14,aE 16 (.gj dp [dH])] (aZ 16 (a7 [J 17 5,J 4 17]) .skip)))) (bQ [aB 18 .add ds (ax 1),J 8 18]))))))) (a7 [bq 4 (ax (-1))]))
def RV:List bf:=[.t 4]
theorem WO:bL bb4 Tryz.f359 2 LJ RV=true:=by kernel_rfl
def K4:bp:=
 ah [b8 2] (a7 [J 3 0,aB 4 .leq (.c (.int .u8 48)) eQ,J 5 4,cX 6 5 true 0,b9 7 5 true .leq dO (.c (.int .u8 57)),bF 8 dN dy cB,J 2 8])
def Rc:List bf:=[.t 2]
theorem V6:bL bb4 Tryz.f242 1 K4 Rc=true:=by kernel_rfl
def Ef:bp:=
 (.seq
 (.region [aE 4 (.gI (.c (.bool false)))] false)
 (.seq
 (.region [aE 5 (.gI (.t 0)),aE 6 (.gI (.t 1)),aE 7 (.call 354 [(.t 5),(.t 6)]),aE 8 (.bin .geq (.t 7) (.c (.int .i64 0))),aE 4 (.gI (.t 8))] false)
 .ret))
def GB:List bf:=[.t 4]
theorem IX:bL bb4 Tryz.f293 2 Ef GB=true:=by kernel_rfl
def Eh:bp:=
 (.seq
 (.region [aE 4 (.gI (.c (.int .i64 0)))] false)
 (.seq
 (.region [aE 5 (.gI (.t 0)),aE 6 (.gI (.t 1)),aE 7 (.call 385 [(.t 5),(.t 6),(.c (.bool true))]),aE 4 (.gI (.t 7))] false)
 .ret))
def GD:List bf:=[.t 4]
theorem IZ:bL bb4 Tryz.f354 2 Eh GD=true:=by kernel_rfl
def LA:bp:=
 (.seq
 (.region [aE 2 (.gI (.c (.bool false)))] false)
 (.seq
 (.region [aE 3 (.gI (.t 0)),aE 4 (.bin .lss (.t 3) (.c (.int .i32 32))),aE 5 (.gI (.t 4)),cc 6 5 false (.gI (.t 0)),cc 7 5 false (.bin .gtr (.t 6) (.c (.int .i32 126))),aE 8 (.pick (.t 5) (.c (.bool true)) (.t 7)),aE 2 (.gI (.t 8))] false)
 .ret))
def RL:List bf:=[.t 2]
theorem WD:bL bb4 Tryz.f320 1 LA RL=true:=by kernel_rfl
def kX:bp:=
 ah [aE 2 (.box 48 eI),aE 3 (.box 32 jB),aE 4 (.alloc 9 [.str []]),aE 5 (.alloc 41 [.int .i64 0])] (aO (ah [b5 13 6 2,bE 14 40 [ee],fz 15 14,J 16 15,cc 17 16 false (.load true 8 eQ),dX 18 16 false 82 [fC],cc 19 16 false (.not gh),bF 20 gq cW e8] (aZ 20 (a7 [c8 1 4 (bs []),c8 1 5 (ax 1)]) .skip)) (aO (.sv 21 83 [hY,dN]) (ah [aH 22 2 2,aK 23 22,aH 24 0 3,aK 25 24,aB 26 .eql fN hA,aH 27 2 2,aK 28 27,bE 29 84 [ik,gi,ax 10]] (ah [b5 31 6 2,b5 32 8 3,bE 33 33 [hJ,jn],J 30 33,aE 34 (.extract 0 iN),aE 35 (.extract 1 iN),J 6 34,J 7 35] (ah [J 36 7,aH 37 1 2,aK 38 37,bE 39 84 [iO,lm,ax 12]] (ah [b5 40 6 2,b5 41 8 3,J 42 6,aE 43 (.build [.str [],.str [],.str [],.bi,.bi,.bi,.str [],.bi,.bi,.int .i64 0,.int .i64 0,.int .i64 0,.bi,.bi,.int .i64 0,.dV (.map none)] [(0,6,kI),(6,8,kJ),(14,1,l6)]),aE 44 (.box 186 jW),J 8 44] (ah [J 45 8,bE 46 85 [lN]] (aO (ah [aH 47 4 2,aK 48 47,cK 49 48,bq 50 (ax 0)] (.block 0 (.loop (ah [aB 51 .lss iY od] (aO (aZ 51 .skip (.exit 0)) (aO (.block 1 (ah [J 52 50,cE 53 4 nb iY,b5 54 4 53,aE 10 (.alloc 84 [.str [],.str [],.bi,.bi]),J 9 52,c8 4 10 kj] (.region [J 55 8,b5 56 4 10,aH 57 4 2,aK 58 57,J 59 9,aE 60 (.gJ 4 kL none (some oO) none),aE 61 (.gP [] 86 [mD,j5,nK])] true))) (bQ [aB 62 .add iY (ax 1),J 50 62]))))))) (aO (ah [aH 63 5 2,aK 64 63,cK 65 64,bq 66 (ax 0)] (.block 2 (.loop (ah [aB 67 .lss nd oR] (aO (aZ 67 .skip (.exit 2)) (aO (.block 3 (ah [cE 68 4 oQ nd,b5 69 4 68,aE 12 (.alloc 148 [.str [],.str [],.bi,.bi]),c8 4 12 oS] (bQ [J 70 8,b5 71 4 12,bE 72 87 [ng,og]]))) (bQ [aB 73 .add nd (ax 1),J 66 73]))))))) (a7 [c8 1 4 (bs []),c8 1 5 (ax 0)]))))))))))
def RI:List bf:=[.cell false 1 4,.cell false 1 5]
theorem WB:bL bb4 Tryz.f31 2 kX RI=true:=by kernel_rfl
def kY:bp:=
 ah [aE 2 (.box 48 eI),aE 3 (.box 32 jB),bq 4 (ax 0),b8 5] (ah [aH 7 1 3,aK 8 7,aH 9 1 2,aK 10 9,bE 11 93 [ds,fl],J 6 11] (a7 [J 12 6,aE 13 (.kf true [dU,ax 0]),J 14 6,aB 15 .geq fr (ax 0),J 4 13,J 5 15]))
def RM:List bf:=[.t 4,.t 5]
theorem WE:bL bb4 Tryz.f33 2 kY RM=true:=by kernel_rfl
def wV:bp:=
 ah [aE 1 (.box 32 eI),b8 2] (a7 [b5 3 8 1,bE 4 154 [eQ],J 5 4,cc 6 5 true (.load true 8 jB),dX 7 5 true 155 [dO],bF 8 dN dy cB,J 9 8,bz 10 9 true 2 1,bI 11 9 true 10,dX 12 9 true 156 [dp],bF 13 eE dU cB,J 14 13,cc 15 14 true (.load true 8 jB),dX 16 14 true 157 [dH],bF 17 fr gq cB,J 18 17,cc 19 18 true (.load true 8 jB),dX 20 18 true 158 [e8],bF 21 gh gL cB,J 22 21,cc 23 22 true (.load true 8 jB),bz 24 22 true 4 1,bI 25 22 true 24,dX 26 22 true 160 [fN,hA,cB],dX 27 22 true 159 [ik,ax (-1)],cc 28 22 true (.not fO),bF 29 gr gi cB,J 30 29,cc 31 30 true (.load true 8 jB),bz 32 30 true 5 1,bI 33 30 true 32,dX 34 30 true 160 [hJ,iw,cW],dX 35 30 true 159 [iX,ax (-1)],cc 36 30 true (.not ki),bF 37 iN iO cB,J 2 37])
def Sb:List bf:=[.t 2]
theorem W7:bL bb4 Tryz.f82 1 wV Sb=true:=by kernel_rfl
def El:bp:=
 ah [J 6 0,fz 7 6] (aZ 7 (bQ [J 8 1,J 9 2,aE 10 (.build [.str [],.int .i64 0] [(0,1,ds),(1,1,eE)]),aE 11 (.pj 180 fl),qL (.panic dp)]) .skip)
def GH:List bf:=[]
theorem I2:bL bb4 Tryz.f84 3 El GH=true:=by kernel_rfl
def ox:bp:=
 ah [J 5 0,aE 6 (.gn dN),aH 7 0 6,aH 8 3 7,aK 9 8,cK 10 9,bq 11 (ax 0)] (.block 0 (.loop (ah [aB 12 .lss dp fl] (aO (aZ 12 .skip (.exit 0)) (aO (.block 1 (ah [J 13 11,cE 14 7 eE dp,b5 15 7 14,aE 3 (.alloc 146 [.str [],.int .i64 0,.int .i64 0,.int .i64 0,.int .i64 0,.int .i64 0,.str []]),J 2 13,c8 7 3 dH] (ah [aE 16 (.jJ 161 [eQ]),J 4 16] (aO (.region [J 17 0,aE 18 (.gn fC),aH 19 0 18,aH 20 3 19,aK 21 20,J 22 2,aE 23 (.gJ 7 gM none (some gr) none),J 24 4,aE 25 (.gP [3] 162 [fN,ga]),fz 26 25,aH 27 0 3,aE 28 (.gb 3 false 1 fO),aE 29 (.gP [3] 84 [ik,gi,ax 9])] true) (.region [aH 30 1 3,b5 31 3 30,fA 32 163 [hJ],J 33 32,bz 34 33 true 1 3,cc 35 33 true (.load true 3 iX),bz 36 33 true 4 3,cc 37 33 true (.load true 3 iO),cc 38 33 true (.jj 149 [ki,jV]),bF 39 iw lm cB,aH 40 0 3,aE 41 (.gb 3 false 1 kI),aE 42 (.gP [3] 84 [ln,kJ,ax 11])] true))))) (bQ [aB 43 .add dp (ax 1),J 11 43]))))))
def Sc:List bf:=[]
theorem W8:bL bb4 Tryz.f85 1 ox Sc=true:=by kernel_rfl
def tz:bp:=
 ah [aE 4 (.box 84 jB)] (ah [J 14 0,aH 15 0 4,aK 16 15,aH 17 1 4,aK 18 17,bE 19 164 [fr,gq,gh,cW],aE 6 (.alloc 72 [.str [],.bi,.int .i64 0,.bi,.bi]),c8 5 6 e8] (ah [aE 20 (.jJ 165 [hY]),J 7 20] (aO (.region [J 21 2,J 22 7,aE 23 (.gP [4] 96 [gM,gr]),fz 24 23,aH 25 0 4,aE 26 (.gb 4 false 1 hA),aE 27 (.gP [4] 84 [ga,ik,ax 9])] true) (ah [aH 28 2 4,aK 29 28,cK 30 29,aH 31 1 6,aK 32 31,cK 33 32,aB 34 .eql iN iw,aH 35 0 4,aK 36 35,bE 37 84 [iX,iO,ax 11]] (ah [J 38 0,aE 39 (.mkMap 184),aE 40 (.gn lm),aH 41 15 40,c8 1 41 ln] (aO (ah [aH 42 2 4,aK 43 42,cK 44 43,bq 45 (ax 0)] (.block 0 (.loop (ah [aB 46 .lss lN kK] (aO (aZ 46 .skip (.exit 0)) (aO (.block 1 (ah [J 47 45,cE 48 1 jW lN,aK 49 48,J 8 47,J 9 49] (ah [J 51 0,J 52 9,bE 53 166 [lo,lP],J 50 53,aE 54 (.extract 0 iY),aE 55 (.extract 1 iY),aE 10 (.alloc 146 [.str [],.int .i64 0,.int .i64 0,.int .i64 0,.int .i64 0,.int .i64 0,.str []]),c8 7 10 kj,J 11 55] (ah [J 57 0,aE 58 (.gn nc),aH 59 15 58,aK 60 59,J 61 9,aE 62 (.iv true (.int .i64 0) nK oe),J 56 62,aE 63 (.extract 0 j5),aE 64 (.extract 1 j5),J 12 63,J 13 64] (ah [J 65 11,fz 66 65,J 67 66,cX 68 67 true 13,cc 69 67 true (.not q2),bF 70 pB oS cB,J 71 9,bE 72 84 [ng,og,ax 9]] (.region [J 73 0,aE 74 (.gn oT),aH 75 15 74,aK 76 75,J 77 9,aH 78 1 6,aK 79 78,J 80 8,cE 81 4 wg s4,aH 82 1 81,aH 83 0 82,aK 84 83,qL (.nB q3 qe uB)] true)))))) (bQ [aB 85 .add lN (ax 1),J 45 85]))))))) (ah [J 86 0,aH 87 3 4,aK 88 87,bE 89 167 [r6,uC]] (bQ [J 90 0,aE 91 (.gn Ai),aH 92 15 91,c8 1 92 (.c (.dV (.map none)))]))))))))
def Sd:List bf:=[]
theorem W9:bL bb4 Tryz.f86 3 tz Sd=true:=by kernel_rfl
def tA:bp:=
 ah [aE 3 (.box 148 jB)] (ah [J 9 0,aH 10 0 3,aK 11 10,aH 12 1 3,aK 13 12,bE 14 164 [eE,dp,ee,cB],aE 4 (.alloc 72 [.str [],.bi,.int .i64 0,.bi,.bi]),c8 5 4 fr] (ah [aH 15 2 3,aK 16 15,cK 17 16,aH 18 1 4,aK 19 18,cK 20 19,aB 21 .eql fC gL,aH 22 0 3,aK 23 22,bE 24 84 [gM,fN,ax 11]] (aO (ah [aH 25 2 3,aK 26 25,cK 27 26,bq 28 (ax 0)] (.block 0 (.loop (ah [aB 29 .lss gi fO] (aO (aZ 29 .skip (.exit 0)) (aO (.block 1 (ah [J 30 28,cE 31 6 ik gi,b5 32 6 31,aE 6 (.alloc 80 [.int .i64 0,.str [],.str [],.str [],.int .i64 0,.bi]),J 5 30,c8 6 6 jn] (.region [J 33 0,aE 34 (.gb 6 true 6 dO),aE 35 (.gP [6,4,3] 168 [iw,iX]),aH 36 1 4,aE 37 (.gb 4 false 1 iO),J 38 5,cE 39 4 jV lm,aH 40 1 39,aH 41 0 40,aE 42 (.qP false 1 kJ),aB 43 .eql ki l6,aH 44 0 3,aE 45 (.gb 3 false 1 kK),aE 46 (.gP [3] 84 [jW,lN,ax 11])] true))) (bQ [aB 47 .add gi (ax 1),J 28 47]))))))) (ah [aH 48 3 3,aK 49 48,cK 50 49,bq 51 (ax 0)] (.block 2 (.loop (ah [aB 52 .lss lo iY] (aO (aZ 52 .skip (.exit 2)) (aO (.block 3 (ah [cE 53 6 od lo,b5 54 6 53,aE 8 (.alloc 80 [.int .i64 0,.str [],.str [],.str [],.int .i64 0,.bi]),c8 6 8 kj] (bQ [J 55 0,b5 56 6 8,bE 57 168 [mD,j5],aB 58 .eql nc (ax 1),bE 59 84 [kL,bs [119,104,101,114,101],ax 11]]))) (bQ [aB 60 .add lo (ax 1),J 51 60]))))))))))
def Se:List bf:=[]
theorem Xa:bL bb4 Tryz.f87 2 tA Se=true:=by kernel_rfl
def Kd:bp:=
 ah [aE 1 (.box 89 eI),b8 2] (aO (ah [aH 3 0 1,aK 4 3] (.block 0 (ah [aB 6 .eql hY (ax 1),J 5 6] (aZ 5 (a7 [aH 7 1 1,aK 8 7,aB 9 .geq ds (ax (-1000)),J 10 9,bz 11 10 true 1 1,bI 12 10 true 11,b9 13 10 true .leq dU (ax 1000),bF 14 fl ee cB,J 15 14,bz 16 15 true 2 1,bI 17 15 true 16,b9 18 15 true .eql fC (bs []),bF 19 dH gh cB,J 2 19]) (ah [aB 21 .eql hY (ax 2),J 20 21] (aZ 20 (a7 [aH 22 1 1,aK 23 22,aB 24 .eql fN (ax 0),J 25 24,bz 26 25 true 2 1,bI 27 25 true 26,cc 28 25 true (.iV fO),b9 29 25 true .leq gi (ax 40),bF 30 hA iC cB,J 31 30,bz 32 31 true 2 1,bI 33 31 true 32,dX 34 31 true 228 [iw],bF 35 hJ iX cB,J 2 35]) .skip)))))) (a7 [b8 2]))
def Qi:List bf:=[.t 2]
theorem Vd:bL bb4 Tryz.f127 1 Kd Qi=true:=by kernel_rfl
def Kf:bp:=
 ah [bq 4 (ax 0)] (aO (ah [J 6 0,cK 7 6,bq 8 (ax 0)] (.block 0 (.loop (ah [aB 9 .lss ds dy] (aO (aZ 9 .skip (.exit 0)) (aO (.block 1 (ah [J 10 8,J 5 10] (ah [J 11 1,J 12 0,J 13 5,cE 14 5 dU ee,b5 15 5 14,aE 16 (.gj dp [dH])] (aZ 16 (a7 [J 17 5,J 4 17]) .skip)))) (bQ [aB 18 .add ds (ax 1),J 8 18]))))))) (a7 [bq 4 (ax (-1))]))
def Qk:List bf:=[.t 4]
theorem Vf:bL bb4 Tryz.f139 2 Kf Qk=true:=by kernel_rfl
def Ki:bp:=
 ah [aE 2 (.box 87 eI),aE 3 (.box 89 jB),b8 4] (ah [b5 6 3 3,bE 7 257 [dO],J 5 7] (a7 [b5 8 3 2,bE 9 163 [ds],J 10 9,cc 11 10 true (.load true 3 eQ),dX 12 10 true 127 [dp],bF 13 fl dU cB,J 14 13,bz 15 14 true 0 2,bI 16 14 true 15,bz 17 14 true 0 3,bI 18 14 true 17,b9 19 14 true .eql gq gh,bF 20 fr e8 cB,J 21 20,cX 22 21 true 5,bz 23 21 true 1 2,bI 24 21 true 23,b9 25 21 true .geq gr ga,bF 26 gM hA cB,J 27 26,cX 28 27 true 5,bz 29 27 true 2 2,bI 30 27 true 29,b9 31 27 true .leq gi iN,bF 32 fO hJ cB,J 4 32]))
def Qn:List bf:=[.t 4]
theorem Vi:bL bb4 Tryz.f149 2 Ki Qn=true:=by kernel_rfl
def Kj:bp:=
 ah [aE 1 (.box 32 eI),b8 2] (aO (ah [aH 5 0 1,aK 6 5,bE 7 109 [dO],fz 8 7,J 9 8,bz 10 9 false 1 1,bI 11 9 false 10,cc 12 9 false (.len dp),b9 13 9 false .lss dU (ax 1),bF 14 eE cW ee,J 15 14,bz 16 15 false 1 1,bI 17 15 false 16,cc 18 15 false (.len fC),b9 19 15 false .gtr gh (ax 6),bF 20 dH cW e8] (aZ 20 (a7 [b8 2]) .skip)) (aO (ah [aH 21 1 1,aK 22 21,cK 23 22,bq 24 (ax 0)] (.block 0 (.loop (ah [aB 25 .lss ga fN] (aO (aZ 25 .skip (.exit 0)) (aO (.block 1 (ah [J 26 24,cE 27 1 gr ga,aK 28 27,J 3 26,J 4 28] (ah [J 29 4,bE 30 109 [iC],fz 31 30,J 32 31,bz 33 32 false 1 1,bI 34 32 false 33,cX 35 32 false 3,cc 36 32 false (.gJ 1 iX none (some ki) none),cX 37 32 false 4,dX 38 32 false 198 [iO,jV],bF 39 jn cW lm] (aZ 39 (a7 [b8 2]) .skip)))) (bQ [aB 40 .add ga (ax 1),J 24 40]))))))) (a7 [kB 2])))
def Qo:List bf:=[.t 2]
theorem Vj:bL bb4 Tryz.f154 1 Kj Qo=true:=by kernel_rfl
def Kk:bp:=
 ah [aE 1 (.box 32 eI),b8 2] (aO (ah [aH 6 3 1,aK 7 6,aB 8 .lss dy (ax 1),J 9 8,bz 10 9 false 3 1,bI 11 9 false 10,b9 12 9 false .gtr dp (ax 200),bF 13 eE cW dU,J 14 13,bz 15 14 false 4 1,bI 16 14 false 15,bz 17 14 false 5 1,bI 18 14 false 17,cc 19 14 false (.kf false [gq,gh]),b9 20 14 false .lss e8 (ax 0),bF 21 fr cW gL,J 22 21,bz 23 22 false 4 1,bI 24 22 false 23,bz 25 22 false 5 1,bI 26 22 false 25,cc 27 22 false (.kf true [ga,ik]),bz 28 22 false 3 1,bI 29 22 false 28,b9 30 22 false .geq fO iC,bF 31 gr cW iN,J 32 31,bz 33 32 false 6 1,bI 34 32 false 33,cc 35 32 false (.len iX),b9 36 32 false .gtr ki (ax 400),bF 37 jn cW iO] (aZ 37 (a7 [b8 2]) .skip)) (aO (ah [aH 38 6 1,aK 39 38,cK 40 39,bq 41 (ax 0)] (.block 0 (.loop (ah [aB 42 .lss kJ kI] (aO (aZ 42 .skip (.exit 0)) (aO (.block 1 (ah [cE 43 6 ln kJ,b5 44 6 43,aE 4 (.alloc 76 [.int .i64 0,.int .i64 0,.int .i64 0,.int .i64 0,.int .i64 0,.bool false]),c8 6 4 kK] (ah [aH 45 1 4,b5 46 3 45,aE 5 (.alloc 74 [.int .i64 0,.int .i64 0,.int .i64 0]),c8 3 5 lO] (ah [aH 47 0 4,aK 48 47,aH 49 4 4,aK 50 49,aH 51 0 5,aK 52 51,aH 53 1 5,aK 54 53,aH 55 2 5,aK 56 55,aE 57 (.kf false [nb,iY,lP,kj,j5]),aB 58 .lss nc (ax 0),J 59 58,bz 60 59 false 0 4,bI 61 59 false 60,bz 62 59 false 4 4,bI 63 59 false 62,cc 64 59 false (.kf true [oe,oP]),bz 65 59 false 3 1,bI 66 59 false 65,b9 67 59 false .geq oQ nd,bF 68 oO cW pB,J 69 68,bz 70 69 false 0 5,bI 71 69 false 70,bz 72 69 false 1 5,bI 73 69 false 72,cc 74 69 false (.kf true [og,oT]),bz 75 69 false 1 1,bI 76 69 false 75,cc 77 69 false (.len q3),b9 78 69 false .geq r4 qe,bF 79 oS cW we,J 80 79,bz 81 80 false 0 5,bI 82 80 false 81,bz 83 80 false 1 5,bI 84 80 false 83,b9 85 80 false .eql wh uB,bF 86 s4 cW x0,J 87 86,bz 88 87 false 2 5,bI 89 87 false 88,bz 90 87 false 2 1,bI 91 87 false 90,cc 92 87 false (.len uE),b9 93 87 false .geq uD x1,bF 94 Ah cW wi] (aZ 94 (a7 [b8 2]) .skip))))) (bQ [aB 95 .add kJ (ax 1),J 41 95]))))))) (a7 [kB 2])))
def Qq:List bf:=[.t 2]
theorem Vk:bL bb4 Tryz.f155 1 Kk Qq=true:=by kernel_rfl
def Kl:bp:=
 ah [b8 2] (aO (ah [J 5 0,cK 6 5,aB 7 .eql dO (ax 0)] (aZ 7 (a7 [kB 2]) .skip)) (ah [J 9 0,bE 10 258 [eE,ax 0],J 8 10,aE 11 (.extract 0 ds),aE 12 (.extract 1 ds),J 3 11,J 4 12] (a7 [J 13 4,aB 14 .eql ee (ax 0),J 2 14])))
def Qr:List bf:=[.t 2]
theorem Vl:bL bb4 Tryz.f156 1 Kl Qr=true:=by kernel_rfl
def Km:bp:=
 ah [aE 1 (.box 32 eI),b8 2] (aO (ah [aH 7 6 1,aK 8 7,cK 9 8,bq 10 (ax 0)] (.block 0 (.loop (ah [aB 11 .lss fl eE] (aO (aZ 11 .skip (.exit 0)) (aO (.block 1 (ah [J 12 10,cE 13 6 ds fl,b5 14 6 13,aE 4 (.alloc 76 [.int .i64 0,.int .i64 0,.int .i64 0,.int .i64 0,.int .i64 0,.bool false]),J 3 12,c8 6 4 fr] (aO (ah [aH 15 0 4,aK 16 15,aH 17 5 1,aK 18 17,aB 19 .eql gq gh,J 20 19,bz 21 20 false 5 4,bI 22 20 false 21,cX 23 20 false 22,bz 24 23 true 0 4,bI 25 23 true 24,bz 26 23 true 4 1,bI 27 23 true 26,b9 28 23 true .eql hA fO,cc 29 20 false (.pick fN gi cB),bF 30 gL cW iC] (aZ 30 (a7 [b8 2]) .skip)) (ah [aH 31 6 1,aK 32 31,cK 33 32,bq 34 (ax 0)] (.block 2 (.loop (ah [aB 35 .lss iX iw] (aO (aZ 35 .skip (.exit 2)) (aO (.block 3 (ah [J 36 34,cE 37 6 jn iX,b5 38 6 37,aE 6 (.alloc 76 [.int .i64 0,.int .i64 0,.int .i64 0,.int .i64 0,.int .i64 0,.bool false]),J 5 36,c8 6 6 lm] (aO (ah [J 39 3,J 40 5,aB 41 .neq ln kI,J 42 41,bz 43 42 true 0 4,bI 44 42 true 43,bz 45 42 true 0 6,bI 46 42 true 45,b9 47 42 true .eql kK lO,bF 48 l6 mC cB,J 49 48,bz 50 49 true 1 4,cc 51 49 true (.load true 3 iY),bz 52 49 true 1 6,cc 53 49 true (.load true 3 lP),cc 54 49 true (.nX false 74 [.i .i64,.i .i64,.i .i64] lo pA),cX 55 49 true 54,bz 56 55 false 1 4,bz 57 55 false 0 56,bI 58 55 false 57,bz 59 55 false 1 6,bz 60 55 false 0 59,bI 61 55 false 60,b9 62 55 false .neq kL oe,cc 63 49 true (.pick mD cW qd),cX 64 49 true 63,bz 65 64 false 5 4,bI 66 64 false 65,cc 67 49 true (.pick oQ cW nd),bF 68 od pB cB] (aZ 68 (a7 [b8 2]) .skip)) (ah [aH 69 5 4,aK 70 69,J 71 70,bz 72 71 true 4 6,bI 73 71 true 72,bz 74 71 true 0 4,bI 75 71 true 74,b9 76 71 true .eql oT r5,bF 77 og q3 cB,J 78 77,bz 79 78 true 1 4,bz 80 78 true 0 79,bI 81 78 true 80,bz 82 78 true 1 6,bz 83 78 true 0 82,bI 84 78 true 83,b9 85 78 true .neq s5 uB,cX 86 78 true 85,bz 87 86 false 1 4,bz 88 86 false 2 87,bI 89 86 false 88,bz 90 86 false 1 6,bz 91 86 false 2 90,bI 92 86 false 91,b9 93 86 false .neq uD x1,cc 94 78 true (.pick r6 cW wi),bF 95 we wj cB] (aZ 95 (a7 [b8 2]) .skip))))) (bQ [aB 96 .add iX (ax 1),J 34 96])))))))))) (bQ [aB 97 .add fl (ax 1),J 10 97]))))))) (a7 [kB 2]))
def Qs:List bf:=[.t 2]
theorem Vm:bL bb4 Tryz.f157 1 Km Qs=true:=by kernel_rfl
def Kn:bp:=
 ah [aE 1 (.box 32 eI),b8 2] (ah [bq 3 (ax (-1))] (aO (ah [aH 6 7 1,aK 7 6,cK 8 7,bq 9 (ax 0)] (.block 0 (.loop (ah [aB 10 .lss eE ds] (aO (aZ 10 .skip (.exit 0)) (aO (.block 1 (ah [cE 11 3 dy eE,b5 12 3 11,aE 5 (.alloc 342 [.int .i64 0,.int .i64 0,.int .i64 0]),c8 3 5 dU] (aO (aO (.region [aH 13 0 5,aK 14 13,J 15 3,aB 16 .leq fr dH,J 17 16,bz 18 17 false 1 5,bI 19 17 false 18,b9 20 17 false .lss e8 (ax 1),bF 21 fC cW gL,J 22 21,bz 23 22 false 1 5,bI 24 22 false 23,b9 25 22 false .gtr ga (ax 1000),bF 26 gr cW hA,J 27 26,bz 28 27 false 2 5,bI 29 27 false 28,b9 30 27 false .lss iC (ax 0),bF 31 fO cW iN,J 32 31,bz 33 32 false 2 5,bI 34 32 false 33,bz 35 32 false 6 1,bI 36 32 false 35,cc 37 32 false (.len iO),b9 38 32 false .geq iX jV,bF 39 jn cW lm,J 40 39,bz 41 40 false 6 1,bI 42 40 false 41,bz 43 40 false 2 5,bI 44 40 false 43,cc 45 40 false (.hV 6 l6 kK),bz 46 40 false 0 45,bI 47 40 false 46,bz 48 40 false 0 5,bI 49 40 false 48,b9 50 40 false .neq mC od,bF 51 kI cW iY,J 52 51,bz 53 52 false 6 1,bI 54 52 false 53,bz 55 52 false 2 5,bI 56 52 false 55,cc 57 52 false (.hV 6 kj j5),bz 58 52 false 5 57,bI 59 52 false 58,bF 60 lP cW oO] true) (aZ 60 (a7 [b8 2]) .skip)) (bQ [aH 61 0 5,aK 62 61,J 3 62])))) (bQ [aB 63 .add eE (ax 1),J 9 63]))))))) (a7 [kB 2])))
def Qt:List bf:=[.t 2]
theorem Vn:bL bb4 Tryz.f158 1 Kn Qt=true:=by kernel_rfl
def Ko:bp:=
 ah [b8 4] (a7 [J 5 0,J 6 1,bE 7 259 [dN,dO],aB 8 .geq dy (ax 0),J 4 8])
def Qu:List bf:=[.t 4]
theorem Vo:bL bb4 Tryz.f159 2 Ko Qu=true:=by kernel_rfl
def Kp:bp:=
 ah [aE 3 (.box 32 eI),bq 6 (.c .bi)] (ah [aE 13 (.et 3 1 1 [.int .i64 0] [(0,ax (-1))]),aH 14 3 3,aK 15 14,bE 16 260 [ee,dH],J 7 16] (ah [J 17 7,J 18 1,aE 19 (.iJ 1 fC gh),c8 1 19 (ax 0)] (aO (ah [J 20 1,aE 21 (.ma 3 1 1 [.int .i64 0] [(0,gL)]),J 8 21] (.block 0 (.loop (aO (ah [J 22 8,aE 23 (.iU gr),aB 24 .gtr fN (ax 0)] (aZ 24 .skip (.exit 0))) (aO (.block 1 (ah [aH 27 6 3,aK 28 27,cK 29 28,bq 30 (ax 0)] (.block 2 (.loop (ah [aB 31 .lss iN iC] (aO (aZ 31 .skip (.exit 2)) (aO (.block 3 (ah [cE 32 6 gi iN,b5 33 6 32,aE 10 (.alloc 76 [.int .i64 0,.int .i64 0,.int .i64 0,.int .i64 0,.int .i64 0,.bool false]),c8 6 10 iw] (aO (.region [aH 34 0 10,aK 35 34,aH 36 4 10,aK 37 36,J 11 35,J 12 37] true) (aO (ah [J 38 2] (aZ 38 (bQ [J 39 12,J 40 11,J 11 39,J 12 40]) .skip)) (ah [J 41 11,J 42 8,aE 43 (.iJ 1 l6 (ax 0)),aE 44 (.ji false 1 jW),aB 45 .eql kJ kK,J 46 45,cX 47 46 true 7,cX 48 46 true 12,cc 49 46 true (.iJ 1 mC nb),cc 50 46 true (.ji false 1 od),b9 51 46 true .lss iY (ax 0),bF 52 lO lo cB] (aZ 52 (ah [J 53 7,J 54 12,J 55 7,J 56 11,aE 57 (.iJ 1 mD j5),aE 58 (.ji false 1 nc),aB 59 .add kL (ax 1),aE 60 (.iJ 1 pA kj),c8 1 60 oO] (bQ [J 61 8,J 62 12,aE 63 (.et 3 1 1 [.int .i64 0] [(0,qd)]),aE 64 (.mJ 3 1 8 oe oP),J 8 64])) .skip)))))) (bQ [aB 65 .add iN (ax 1),J 30 65])))))))) (bQ [J 25 8,aE 26 (.mZ 1 hA (some (ax 1)) none),J 8 26])))))) (a7 [J 66 7,J 6 66]))))
def Qv:List bf:=[.t 6]
theorem Vp:bL bb4 Tryz.f160 3 Kp Qv=true:=by kernel_rfl
def Kq:bp:=
 ah [aE 2 (.box 146 eI),b8 3] (a7 [aH 4 0 2,aK 5 4,aH 6 0 1,aK 7 6,aB 8 .eql dN dy,J 3 8])
def Qw:List bf:=[.t 3]
theorem Vq:bL bb4 Tryz.f161 1 Kq Qw=true:=by kernel_rfl
def Kr:bp:=
 ah [aE 1 (.box 87 eI),b8 2] (ah [bq 3 (ax 0),bq 4 (ax 0)] (aO (ah [aH 5 0 1,aK 6 5] (.block 0 (ah [aB 8 .eql dO (ax 1),J 7 8] (aZ 7 (bQ [bq 3 (ax (-1000)),bq 4 (ax 1000)]) (ah [aB 10 .eql dO (ax 2),J 9 10] (aZ 9 (bQ [bq 3 (ax 0),bq 4 (ax 40)]) (a7 [b8 2]))))))) (a7 [J 11 3,aH 12 1 1,aK 13 12,aB 14 .leq dp ee,J 15 14,bz 16 15 true 1 1,bI 17 15 true 16,bz 18 15 true 2 1,bI 19 15 true 18,b9 20 15 true .leq fC e8,bF 21 dH gL cB,J 22 21,bz 23 22 true 2 1,bI 24 22 true 23,cX 25 22 true 4,b9 26 22 true .leq ga hA,bF 27 gr ik cB,J 2 27])))
def Qx:List bf:=[.t 2]
theorem Vr:bL bb4 Tryz.f163 1 Kr Qx=true:=by kernel_rfl
def Ks:bp:=
 ah [aE 8 (.alloc 72 [.str [],.bi,.int .i64 0,.bi,.bi])] (ah [J 12 0,J 13 1,bE 14 262 [dU,ee],J 9 14] (ah [J 15 9,aB 16 .geq dH (ax 0),J 17 1,bE 18 84 [gq,fC,ax 10]] (ah [J 19 0,aE 20 (.gn e8),aH 21 6 20,aH 22 1 21,aK 23 22,J 24 2,bE 25 93 [fN,ga],J 10 25] (ah [J 26 10,aB 27 .geq ik (ax 0),J 28 2,bE 29 84 [fO,gi,ax 12]] (ah [J 30 0,aE 31 (.gn iN),aH 32 14 31,aK 33 32,J 34 10,J 35 9,aE 36 (.build [.int .i64 0,.int .i64 0,.int .i64 0] [(0,1,iw),(1,1,iX),(2,1,ki)]),aE 11 (.alloc 74 [.int .i64 0,.int .i64 0,.int .i64 0]),c8 3 11 iO] (aO (ah [J 37 3] (aZ 37 (.region [J 38 10,J 39 0,aE 40 (.gn ln),aH 41 14 40,aE 42 (.gb 0 false 1 kJ),aH 43 0 11,qL (.gK 11 [0] 1 jW lm),aH 44 1 11,qL (.gK 11 [0] 1 kK l6)] true) .skip)) (ah [J 45 0,aE 46 (.gn lN),aH 47 6 46,aH 48 6 47,aK 49 48,aE 50 (.jJ 264 [dp]),bE 51 263 [od,iY],J 52 1,bE 53 84 [lo,lP,ax 8]] (a7 [J 54 0,aE 55 (.gn kj),aH 56 6 55,aH 57 2 56,aK 58 57,J 59 9,cE 60 5 kL oO,b5 61 5 60,c8 5 8 oe]))))))))
def Qy:List bf:=[.cell true 5 8]
theorem Vs:bL bb4 Tryz.f164 4 Ks Qy=true:=by kernel_rfl
def Kt:bp:=
 ah [aE 2 (.box 84 eI),b8 3] (a7 [aH 4 0 2,aK 5 4,aH 6 0 1,aK 7 6,aB 8 .eql dN dy,J 9 8,bz 10 9 true 1 2,bI 11 9 true 10,bz 12 9 true 1 1,bI 13 9 true 12,b9 14 9 true .eql dp ee,bF 15 eE fr cB,J 3 15])
def Qz:List bf:=[.t 3]
theorem Vt:bL bb4 Tryz.f165 1 Kt Qz=true:=by kernel_rfl
def D8:bp:=
 ah [aE 3 (.box 9 jB),aE 4 (.alloc 146 [.str [],.int .i64 0,.int .i64 0,.int .i64 0,.int .i64 0,.int .i64 0,.str []]),b8 5] (ah [J 7 0,aE 8 (.gn dy),aH 9 0 8,aH 10 3 9,aK 11 10,aE 12 (.jJ 265 [eQ]),bE 13 261 [dp,dU],J 6 13] (aO (ah [J 14 6,aB 15 .lss fr (ax 0)] (aZ 15 (a7 [aE 16 (.build [.str [],.int .i64 0,.int .i64 0,.int .i64 0,.int .i64 0,.int .i64 0,.str []] []),c8 7 4 gq,b8 5]) .skip)) (a7 [J 17 0,aE 18 (.gn fC),aH 19 0 18,aH 20 3 19,aK 21 20,J 22 6,cE 23 7 gM gr,b5 24 7 23,c8 7 4 ga,kB 5])))
def Gw:List bf:=[.cell true 7 4,.t 5]
theorem IS:bL bb4 Tryz.f166 2 D8 Gw=true:=by kernel_rfl
def yD:bp:=
 ah [J 6 1,cK 7 6,bq 8 (ax 0)] (.block 0 (.loop (ah [aB 9 .lss ds dy] (aO (aZ 9 .skip (.exit 0)) (aO (.block 1 (ah [cE 10 11 dO ds,b5 11 11 10,aE 5 (.alloc 82 [.int .i64 0,.str [],.int .i64 0,.str [],.str [],.str [],.int .i64 0,.bi,.int .i64 0,.bi,.bi]),c8 11 5 dp] (aO (ah [aH 12 0 5,aK 13 12] (.block 2 (ah [aB 15 .eql ee (ax 1),J 14 15] (aZ 14 (ah [J 16 0,b5 17 11 5,bE 18 266 [gq,fC]] (.exit 1)) (ah [aB 20 .eql ee (ax 2),J 19 20] (aZ 19 (bQ [J 21 0,aH 22 2 5,b5 23 6 22,bE 24 168 [gM,fN],aB 25 .eql ga (ax 1),bE 26 84 [hA,bs [105,102],ax 11]]) (ah [aB 28 .eql ee (ax 3),J 27 28] (aZ 27 (bQ [J 29 0,aH 30 2 5,b5 31 6 30,bE 32 168 [iC,hJ],aB 33 .eql jn (ax 1),bE 34 84 [iw,bs [119,104,105,108,101],ax 11]]) .skip)))))))) (ah [J 35 0,aH 36 9 5,aK 37 36,bE 38 167 [ki,jV]] (bQ [J 39 0,aH 40 10 5,aK 41 40,bE 42 167 [ln,kJ]]))))) (bQ [aB 43 .add ds (ax 1),J 8 43]))))))
def zQ:List bf:=[]
theorem AW:bL bb4 Tryz.f167 2 yD zQ=true:=by kernel_rfl
def D9:bp:=
 ah [aE 3 (.box 80 jB),bq 4 (ax 0)] (ah [aE 5 (.alloc 60 [.bi])] (aO (ah [aH 9 5 3,aK 10 9,cK 11 10,bq 12 (ax 0)] (.block 0 (.loop (ah [aB 13 .lss dU dp] (aO (aZ 13 .skip (.exit 0)) (aO (.block 1 (ah [cE 14 6 fl dU,b5 15 6 14,aE 7 (.alloc 80 [.int .i64 0,.str [],.str [],.str [],.int .i64 0,.bi]),c8 6 7 dH] (.region [aE 16 (.gb 5 false 1 dN),J 17 0,aE 18 (.gb 7 true 6 dy),aE 19 (.gP [5,7] 168 [fC,gh]),aE 20 (.et 3 1 1 [.int .i64 0] [(0,e8)]),aE 21 (.append 3 1 8 gq gL),c8 1 5 gM] true))) (bQ [aB 22 .add dU (ax 1),J 12 22]))))))) (ah [aE 23 (.jJ 267 [dN]),J 8 23] (aO (ah [aH 24 0 3,aK 25 24] (.block 2 (ah [aB 27 .eql hA (ax 2),J 26 27] (aZ 26 (a7 [bq 4 (ax 2)]) (ah [aB 29 .eql hA (ax 3),J 28 29] (aZ 28 (a7 [J 30 0,aH 31 2 3,aK 32 31,bE 33 270 [iN,jn],J 4 33]) (ah [aB 35 .eql hA (ax 4),J 34 35] (aZ 34 (bQ [J 36 8,aE 37 (.gj iO [ax 2]),bE 38 84 [jV,bs [108,101,110],ax 11]]) (ah [aB 40 .eql hA (ax 5),J 39 40] (aZ 39 (.region [J 41 8,aE 42 (.kT [3] kJ [ax 1]),aH 43 1 3,aE 44 (.gb 3 false 1 jW),aE 45 (.gP [3] 84 [l6,kK,ax 11])] true) (ah [aB 47 .eql hA (ax 6),J 46 47] (aZ 46 (aO (ah [aH 48 1 3,aK 49 48,aB 50 .neq od (bs [43]),J 51 50,bz 52 51 true 1 3,bI 53 51 true 52,b9 54 51 true .neq pA (bs [61,61]),bF 55 lo kj cB,J 56 55,bz 57 56 true 1 3,bI 58 56 true 57,b9 59 56 true .neq kL (bs [33,61]),bF 60 j5 oO cB] (aZ 60 (aO (.region [J 61 8,aE 62 (.kT [3] oe [ax 1]),aH 63 1 3,aE 64 (.gb 3 false 1 oP),aE 65 (.gP [3] 84 [qd,oQ,ax 11])] true) (.exit 2)) .skip)) (aO (.region [J 66 8,aE 67 (.gb 5 false 1 dN),cE 68 1 pB (ax 0),aK 69 68,aE 70 (.kT [3] nd [oS]),aH 71 1 3,aE 72 (.gb 3 false 1 og),aE 73 (.gP [3] 84 [ng,r3,ax 11])] true) (ah [aH 74 1 3,aK 75 74,aB 76 .eql r5 (bs [43])] (aZ 76 (a7 [aE 77 (.gb 5 false 1 dN),cE 78 1 qe (ax 0),aK 79 78,J 4 79]) .skip)))) .skip)))))))))))) (a7 [bq 4 (ax 1)])))))
def Gx:List bf:=[.t 4]
theorem IT:bL bb4 Tryz.f168 2 D9 Gx=true:=by kernel_rfl
def K3:bp:=
 ah [b8 2] (a7 [J 3 0,bE 4 293 [eQ,.c (.fn 320 [])],fz 5 4,J 2 5])
def Rb:List bf:=[.t 2]
theorem V5:bL bb4 Tryz.f228 1 K3 Rb=true:=by kernel_rfl
def K5:bp:=
 ah [aE 1 (.box 89 eI),bq 2 (ax 0)] (aO (ah [aH 3 0 1,aK 4 3] (.block 0 (ah [aB 6 .eql hY (ax 1),J 5 6] (aZ 5 (a7 [aH 7 1 1,aK 8 7,J 2 8]) (ah [aB 10 .eql hY (ax 2),J 9 10] (aZ 9 (a7 [aH 11 2 1,aK 12 11,aE 13 (.iV dU),J 2 13]) .skip)))))) (a7 [bq 2 (ax 0)]))
def Rd:List bf:=[.t 2]
theorem V7:bL bb4 Tryz.f257 1 K5 Rd=true:=by kernel_rfl
def K6:bp:=
 ah [bq 4 (.c .bi),bq 5 (ax 0)] (aO (ah [J 6 1,aB 7 .lss dO (ax 0),J 8 7,cX 9 8 false 1,cX 10 8 false 0,cc 11 8 false (.len fl),b9 12 8 false .geq eE dp,bF 13 ds cW dU,J 14 13,cX 15 14 false 0,dX 16 14 false 338 [dH],cc 17 14 false (.not gq),bF 18 fr cW fC] (aZ 18 (a7 [bq 4 (.c .bi),bq 5 (ax 1)]) .skip)) (a7 [J 19 0,J 20 1,cE 21 5 e8 gL,b5 22 5 21,bE 23 339 [gr],J 4 23,bq 5 (ax 0)]))
def Re:List bf:=[.t 4,.t 5]
theorem V8:bL bb4 Tryz.f258 2 K6 Re=true:=by kernel_rfl
def K7:bp:=
 ah [bq 4 (ax 0)] (aO (ah [J 6 0,cK 7 6,bq 8 (ax 0)] (.block 0 (.loop (ah [aB 9 .lss ds dy] (aO (aZ 9 .skip (.exit 0)) (aO (.block 1 (ah [J 10 8,J 5 10] (ah [J 11 1,J 12 0,J 13 5,cE 14 1 dU ee,aK 15 14,aB 16 .eql dp dH] (aZ 16 (a7 [J 17 5,J 4 17]) .skip)))) (bQ [aB 18 .add ds (ax 1),J 8 18]))))))) (a7 [bq 4 (ax (-1))]))
def Rf:List bf:=[.t 4]
theorem V9:bL bb4 Tryz.f259 2 K7 Rf=true:=by kernel_rfl
def K8:bp:=
 ah [aE 3 (.box 9 jB),bq 4 (ax 0)] (a7 [J 5 0,aE 6 (.gn dN),aH 7 6 6,aH 8 2 7,aK 9 8,aE 10 (.jJ 341 [eQ]),bE 11 139 [eE,fl],J 4 11])
def Rg:List bf:=[.t 4]
theorem Wa:bL bb4 Tryz.f262 2 K8 Rg=true:=by kernel_rfl
def K9:bp:=
 ah [b8 4] (a7 [J 5 0,J 6 1,bE 7 342 [dN,dO],aB 8 .geq dy (ax 0),J 4 8])
def Rh:List bf:=[.t 4]
theorem Wb:bL bb4 Tryz.f263 2 K9 Rh=true:=by kernel_rfl
def La:bp:=
 ah [aE 2 (.box 76 eI),b8 3] (a7 [aH 4 1 2,b5 5 3 4,b5 6 3 1,aE 7 (.nX false 74 [.i .i64,.i .i64,.i .i64] dN dO),J 3 7])
def Ri:List bf:=[.t 3]
theorem Wc:bL bb4 Tryz.f264 1 La Ri=true:=by kernel_rfl
def Lb:bp:=
 ah [aE 2 (.box 146 eI),b8 3] (a7 [aH 4 0 2,aK 5 4,aK 6 1,aB 7 .eql dN dO,J 3 7])
def Rj:List bf:=[.t 3]
theorem Wd:bL bb4 Tryz.f265 1 Lb Rj=true:=by kernel_rfl
def Bf:bp:=
 ah [aE 3 (.box 82 jB)] (aO (.region [J 9 0,aE 10 (.gn eE),aH 11 15 10,aK 12 11,aH 13 1 3,aK 14 13,aE 15 (.iv true (.int .i64 0) dU fr),J 8 15,aE 16 (.extract 0 ds),aE 17 (.extract 1 ds),J 4 16,J 5 17] true) (ah [J 19 0,aH 20 1 3,aK 21 20,bE 22 166 [e8,gM],J 18 22,aE 23 (.extract 0 gh),aE 24 (.extract 1 gh),aE 6 (.alloc 146 [.str [],.int .i64 0,.int .i64 0,.int .i64 0,.int .i64 0,.int .i64 0,.str []]),c8 7 6 fN,J 7 24] (ah [J 25 5,J 26 25,cX 27 26 false 7,bF 28 ik cW fO,aH 29 1 3,aK 30 29,bE 31 84 [gi,iN,ax 10]] (ah [J 32 5,fz 33 32,aH 34 1 3,aK 35 34,bE 36 84 [iw,ki,ax 11]] (.region [J 37 0,aH 38 2 3,aE 39 (.gb 3 true 6 lm),aE 40 (.gP [3,6] 168 [jV,ln]),aH 41 1 6,aH 42 0 41,aE 43 (.gb 6 false 1 l6),aB 44 .eql kI jW,aH 45 1 3,aE 46 (.gb 3 false 1 lN),aE 47 (.gP [3] 84 [kK,lO,ax 11])] true)))))
def Cv:List bf:=[]
theorem Dz:bL bb4 Tryz.f266 2 Bf Cv=true:=by kernel_rfl
def Lc:bp:=
 ah [aE 2 (.box 3 eI),b8 3] (a7 [aK 4 1,aE 5 (.jJ 269 [aS0]),bE 6 268 [hY,dN],fz 7 6,J 3 7])
def Rk:List bf:=[.t 3]
theorem We:bL bb4 Tryz.f267 1 Lc Rk=true:=by kernel_rfl
def Ld:bp:=
 ah [b8 4] (a7 [J 5 0,J 6 1,bE 7 343 [dN,dO],aB 8 .geq dy (ax 0),J 4 8])
def Rl:List bf:=[.t 4]
theorem Wf:bL bb4 Tryz.f268 2 Ld Rl=true:=by kernel_rfl
def Le:bp:=
 ah [b8 3] (a7 [J 4 0,aK 5 1,aB 6 .neq hY dN,J 3 6])
def Rm:List bf:=[.t 3]
theorem Wg:bL bb4 Tryz.f269 1 Le Rm=true:=by kernel_rfl
def ry:bp:=
 ah [bq 4 (ax 0)] (aO (ah [J 10 0,aE 11 (.gn fl),aH 12 15 11,aK 13 12,J 14 1,aE 15 (.iv true (.int .i64 0) ee fr),J 9 15,aE 16 (.extract 0 eE),aE 17 (.extract 1 eE),J 5 16,J 6 17] (ah [J 18 6] (aZ 18 (a7 [J 19 5,J 4 19]) .skip))) (ah [J 21 0,J 22 1,bE 23 166 [gM,gr],J 20 23,aE 24 (.extract 0 gL),aE 25 (.extract 1 gL),aE 7 (.alloc 146 [.str [],.int .i64 0,.int .i64 0,.int .i64 0,.int .i64 0,.int .i64 0,.str []]),c8 7 7 ga,J 8 25] (ah [J 26 8,J 27 1,bE 28 84 [ik,fO,ax 10]] (a7 [aH 29 1 7,aH 30 0 29,aK 31 30,J 4 31]))))
def Cw:List bf:=[.t 4]
theorem DA:bL bb4 Tryz.f270 2 ry Cw=true:=by kernel_rfl
def LB:bp:=
 ah [b8 2] (aO (ah [J 9 0,cK 10 9,aB 11 .gtr fl (ax 40)] (aZ 11 (a7 [b8 2]) .skip)) (ah [J 12 0,bE 13 374 [dU],J 3 13] (aO (ah [J 14 3,cK 15 14,aB 16 .gtr dH (ax 24)] (aZ 16 (a7 [b8 2]) .skip)) (ah [bq 4 (ax 0)] (aO (ah [J 17 0,cK 18 17,bq 19 (ax 0)] (.block 0 (.loop (ah [aB 20 .lss e8 gh] (aO (aZ 20 .skip (.exit 0)) (aO (.block 1 (ah [J 21 19,cE 22 5 fC e8,b5 23 5 22,aE 6 (.alloc 72 [.str [],.bi,.int .i64 0,.bi,.bi]),J 5 21,c8 5 6 fN] (aO (ah [aH 24 0 6,aK 25 24,bE 26 205 [hA],fz 27 26,J 28 27,bz 29 28 false 1 6,bI 30 28 false 29,cc 31 28 false (.len iN),b9 32 28 false .gtr hJ (ax 4),bF 33 gi cW jn,J 34 33,bz 35 34 false 2 6,bI 36 34 false 35,cX 37 34 false 4,b9 38 34 false .neq iO jV,bF 39 iX cW lm,J 40 39,cX 41 40 false 0,cX 42 40 false 5,cc 43 40 false (.gJ 5 kJ none (some l6) none),cc 44 40 false (.jJ 376 [dO]),dX 45 40 false 375 [jW,kK],bF 46 kI cW lN] (aZ 46 (a7 [b8 2]) .skip)) (ah [J 47 4,aH 48 1 6,aK 49 48,cK 50 49,aB 51 .add mC iY,J 4 51] (aO (ah [aH 52 1 6,aK 53 52,cK 54 53,bq 55 (ax 0)] (.block 2 (.loop (ah [aB 56 .lss mD kj] (aO (aZ 56 .skip (.exit 2)) (aO (.block 3 (ah [J 57 55,cE 58 4 pA mD,b5 59 4 58,aE 8 (.alloc 131 [.str [],.int .i64 0,.int .i64 0,.int .i64 0]),J 7 57,c8 4 8 oO] (ah [aH 60 0 8,aK 61 60,bE 62 109 [oe],fz 63 62,J 64 63,bz 65 64 false 1 8,cc 66 64 false (.load true 3 oR),dX 67 64 false 377 [nd],cc 68 64 false (.not pB),bF 69 oQ cW q2,J 70 69,bz 71 70 false 1 6,bI 72 70 false 71,cX 73 70 false 7,cc 74 70 false (.gJ 4 r3 none (some oT) none),cc 75 70 false (.jJ 379 [ds]),dX 76 70 false 378 [r4,r5],bF 77 ng cW q3] (aZ 77 (a7 [b8 2]) .skip)))) (bQ [aB 78 .add mD (ax 1),J 55 78]))))))) (ah [aH 79 3 6,b5 80 2 79,J 81 3,bE 82 380 [s4,s5],fz 83 82] (aZ 83 (a7 [b8 2]) .skip))))))) (bQ [aB 84 .add e8 (ax 1),J 19 84]))))))) (a7 [kB 2]))))))
def RN:List bf:=[.t 2]
theorem WG:bL bb4 Tryz.f338 1 LB RN=true:=by kernel_rfl
def LC:bp:=
 ah [aE 1 (.box 72 eI),bq 2 (.c .bi)] (ah [bq 3 (.c .bi)] (aO (ah [aH 8 1 1,aK 9 8,cK 10 9,bq 11 (ax 0)] (.block 0 (.loop (ah [aB 12 .lss dp fl] (aO (aZ 12 .skip (.exit 0)) (aO (.block 1 (ah [J 13 11,cE 14 4 eE dp,b5 15 4 14,aE 5 (.alloc 131 [.str [],.int .i64 0,.int .i64 0,.int .i64 0]),J 4 13,c8 4 5 dH] (bQ [J 16 3,aH 17 2 1,aK 18 17,J 19 4,aB 20 .add gh e8,aH 21 1 5,aH 22 2 21,aK 23 22,aE 24 (.build [.int .i64 0,.int .i64 0,.int .i64 0] [(0,1,gL),(1,1,ax (-1)),(2,1,fN)]),aH 25 2 1,aK 26 25,J 27 4,aB 28 .add ik fO,aH 29 1 5,aH 30 1 29,aK 31 30,aE 32 (.neg hJ),aE 33 (.build [.int .i64 0,.int .i64 0,.int .i64 0] [(0,1,ax (-1)),(1,1,gi),(2,1,jn)]),aE 34 (.et 438 3 2 [.int .i64 0,.int .i64 0,.int .i64 0] [(0,ga),(1,iw)]),aE 35 (.append 438 3 24 gq iX),J 3 35]))) (bQ [aB 36 .add dp (ax 1),J 11 36]))))))) (ah [J 37 3,aH 38 3 1,aH 39 0 38,aK 40 39,aE 41 (.append 438 3 24 jV kI),J 3 41] (aO (ah [aH 42 3 1,aH 43 1 42,aK 44 43,cK 45 44,bq 46 (ax 0)] (.block 2 (.loop (ah [aB 47 .lss lO lN] (aO (aZ 47 .skip (.exit 2)) (aO (.block 3 (ah [cE 48 2 kK lO,b5 49 2 48,aE 7 (.alloc 439 [.int .i64 0,.int .i64 0]),c8 2 7 od] (bQ [J 50 3,aE 51 (.mS 2 1 dy (ax 0)),aK 52 51,aE 53 (.mS 2 1 dy (ax 1)),aK 54 53,aE 55 (.build [.int .i64 0,.int .i64 0,.int .i64 0] [(0,1,lP),(1,1,kj)]),aE 56 (.mS 2 1 dy (ax 1)),aK 57 56,aE 58 (.mS 2 1 dy (ax 0)),aK 59 58,aE 60 (.build [.int .i64 0,.int .i64 0,.int .i64 0] [(0,1,nc),(1,1,oO)]),aE 61 (.et 438 3 2 [.int .i64 0,.int .i64 0,.int .i64 0] [(0,mD),(1,nK)]),aE 62 (.append 438 3 24 iY oe),J 3 62]))) (bQ [aB 63 .add lO (ax 1),J 46 63]))))))) (a7 [J 64 3,J 2 64])))))
def RO:List bf:=[.t 2]
theorem WH:bL bb4 Tryz.f339 1 LC RO=true:=by kernel_rfl
def LD:bp:=
 ah [aE 2 (.box 72 eI),b8 3] (a7 [aH 4 0 2,aK 5 4,aK 6 1,aB 7 .eql dN dO,J 3 7])
def RP:List bf:=[.t 3]
theorem WI:bL bb4 Tryz.f341 1 LD RP=true:=by kernel_rfl
def LF:bp:=
 ah [bq 4 (ax 0)] (aO (ah [J 6 0,cK 7 6,bq 8 (ax 0)] (.block 0 (.loop (ah [aB 9 .lss ds dy] (aO (aZ 9 .skip (.exit 0)) (aO (.block 1 (ah [J 10 8,J 5 10] (ah [J 11 1,J 12 0,J 13 5,cE 14 6 dU ee,b5 15 6 14,aE 16 (.gj dp [dH])] (aZ 16 (a7 [J 17 5,J 4 17]) .skip)))) (bQ [aB 18 .add ds (ax 1),J 8 18]))))))) (a7 [bq 4 (ax (-1))]))
def RQ:List bf:=[.t 4]
theorem WJ:bL bb4 Tryz.f342 2 LF RQ=true:=by kernel_rfl
def LG:bp:=
 ah [bq 4 (ax 0)] (aO (ah [J 6 0,cK 7 6,bq 8 (ax 0)] (.block 0 (.loop (ah [aB 9 .lss ds dy] (aO (aZ 9 .skip (.exit 0)) (aO (.block 1 (ah [J 10 8,J 5 10] (ah [J 11 1,J 12 0,J 13 5,cE 14 1 dU ee,aK 15 14,aE 16 (.gj dp [dH])] (aZ 16 (a7 [J 17 5,J 4 17]) .skip)))) (bQ [aB 18 .add ds (ax 1),J 8 18]))))))) (a7 [bq 4 (ax (-1))]))
def RR:List bf:=[.t 4]
theorem WK:bL bb4 Tryz.f343 2 LG RR=true:=by kernel_rfl
def LK:bp:=
 ah [bq 2 (.c .bi)] (ah [bq 3 (.c .bi)] (aO (ah [J 6 0,cK 7 6,bq 8 (ax 0)] (.block 0 (.loop (ah [aB 9 .lss ds dy] (aO (aZ 9 .skip (.exit 0)) (aO (.block 1 (ah [cE 10 5 dO ds,b5 11 5 10,aE 5 (.alloc 72 [.str [],.bi,.int .i64 0,.bi,.bi]),c8 5 5 dp] (bQ [J 12 3,aH 13 1 5,aK 14 13,aE 15 (.append 131 4 40 dU fr),J 3 15]))) (bQ [aB 16 .add ds (ax 1),J 8 16]))))))) (a7 [J 17 3,J 2 17])))
def RX:List bf:=[.t 2]
theorem WR:bL bb4 Tryz.f374 1 LK RX=true:=by kernel_rfl
def LL:bp:=
 ah [b8 4] (a7 [J 5 0,J 6 1,bE 7 139 [dN,dO],aB 8 .geq dy (ax 0),J 4 8])
def RY:List bf:=[.t 4]
theorem WS:bL bb4 Tryz.f375 2 LL RY=true:=by kernel_rfl
def LM:bp:=
 ah [aE 2 (.box 72 eI),b8 3] (a7 [aH 4 0 2,aK 5 4,aH 6 0 1,aK 7 6,aB 8 .eql dN dy,J 3 8])
def RZ:List bf:=[.t 3]
theorem WT:bL bb4 Tryz.f376 1 LM RZ=true:=by kernel_rfl
def LN:bp:=
 ah [aE 1 (.box 87 eI),b8 2] (aO (ah [aH 3 0 1,aK 4 3] (.block 0 (ah [aB 6 .eql hY (ax 1),J 5 6] (aZ 5 (a7 [aH 7 1 1,aK 8 7,aB 9 .geq ds (ax (-1000)),J 10 9,bz 11 10 true 1 1,bI 12 10 true 11,bz 13 10 true 2 1,bI 14 10 true 13,b9 15 10 true .leq dU fr,bF 16 fl dH cB,J 17 16,bz 18 17 true 2 1,bI 19 17 true 18,b9 20 17 true .leq e8 (ax 1000),bF 21 fC gL cB,J 2 21]) (ah [aB 23 .eql hY (ax 2),J 22 23] (aZ 22 (a7 [aH 24 1 1,aK 25 24,aB 26 .geq hA (ax 0),J 27 26,bz 28 27 true 1 1,bI 29 27 true 28,bz 30 27 true 2 1,bI 31 27 true 30,b9 32 27 true .leq iC hJ,bF 33 fO jn cB,J 34 33,bz 35 34 true 2 1,bI 36 34 true 35,b9 37 34 true .leq iO (ax 40),bF 38 iX jV cB,J 2 38]) .skip)))))) (a7 [b8 2]))
def R0:List bf:=[.t 2]
theorem WU:bL bb4 Tryz.f377 1 LN R0=true:=by kernel_rfl
def LO:bp:=
 ah [b8 4] (a7 [J 5 0,J 6 1,bE 7 400 [dN,dO],aB 8 .geq dy (ax 0),J 4 8])
def R1:List bf:=[.t 4]
theorem WV:bL bb4 Tryz.f378 2 LO R1=true:=by kernel_rfl
def LP:bp:=
 ah [aE 2 (.box 131 eI),b8 3] (a7 [aH 4 0 2,aK 5 4,aH 6 0 1,aK 7 6,aB 8 .eql dN dy,J 3 8])
def R2:List bf:=[.t 3]
theorem WW:bL bb4 Tryz.f379 1 LP R2=true:=by kernel_rfl
def LR:bp:=
 ah [aE 2 (.box 70 eI),b8 4] (aO (ah [aH 11 0 2,aK 12 11,cK 13 12,aB 14 .gtr ee (ax 20),J 15 14,bz 16 15 false 1 2,bI 17 15 false 16,cc 18 15 false (.len fC),b9 19 15 false .gtr gh (ax 20),bF 20 dH cW e8] (aZ 20 (a7 [b8 4]) .skip)) (aO (ah [aH 21 0 2,aK 22 21,cK 23 22,bq 24 (ax 0)] (.block 0 (.loop (ah [aB 25 .lss ga fN] (aO (aZ 25 .skip (.exit 0)) (aO (.block 1 (ah [cE 26 3 gr ga,b5 27 3 26,aE 6 (.alloc 438 [.int .i64 0,.int .i64 0,.int .i64 0]),c8 3 6 fO] (ah [aH 28 0 6,aK 29 28,aH 30 1 6,aK 31 30,aE 32 (.kf false [iC,hJ]),aB 33 .lss jn (ax (-1)),J 34 33,bz 35 34 false 0 6,bI 36 34 false 35,bz 37 34 false 1 6,bI 38 34 false 37,cc 39 34 false (.kf true [iO,lm]),cX 40 34 false 1,cc 41 34 false (.len kI),b9 42 34 false .geq ln kJ,bF 43 iX cW l6,J 44 43,bz 45 44 false 2 6,bI 46 44 false 45,b9 47 44 false .lss lO (ax (-20000)),bF 48 kK cW mC,J 49 48,bz 50 49 false 2 6,bI 51 49 false 50,b9 52 49 false .gtr lo (ax 20000),bF 53 od cW lP] (aZ 53 (a7 [b8 4]) .skip)))) (bQ [aB 54 .add ga (ax 1),J 24 54]))))))) (aO (ah [aH 55 1 2,aK 56 55,cK 57 56,bq 58 (ax 0)] (.block 2 (.loop (ah [aB 59 .lss kL nc] (aO (aZ 59 .skip (.exit 2)) (aO (.block 3 (ah [cE 60 2 j5 kL,b5 61 2 60,aE 8 (.alloc 439 [.int .i64 0,.int .i64 0]),c8 2 8 oe] (ah [b5 62 2 8,bq 63 (ax 0)] (.block 4 (.loop (ah [aB 64 .lss oP (ax 2)] (aO (aZ 64 .skip (.exit 4)) (aO (.block 5 (ah [aE 65 (.jw false 2 1 qd oP),J 10 65] (ah [J 66 10,aB 67 .lss nd (ax 0),J 68 67,cX 69 68 false 10,cX 70 68 false 1,cc 71 68 false (.len ng),b9 72 68 false .geq oS og,bF 73 q2 cW r3,J 74 73,cX 75 74 false 1,cX 76 74 false 10,cc 77 74 false (.hV 4 r5 q3),bz 78 74 false 1 77,bz 79 74 false 0 78,bI 80 74 false 79,b9 81 74 false .neq s4 (ax 2),bF 82 r4 cW s5] (aZ 82 (a7 [b8 4]) .skip)))) (bQ [aB 83 .add oP (ax 1),J 63 83]))))))))) (bQ [aB 84 .add kL (ax 1),J 58 84]))))))) (a7 [kB 4]))))
def R4:List bf:=[.t 4]
theorem WY:bL bb4 Tryz.f380 2 LR R4=true:=by kernel_rfl
def LV:bp:=
 ah [bq 4 (ax 0)] (aO (ah [J 6 0,cK 7 6,bq 8 (ax 0)] (.block 0 (.loop (ah [aB 9 .lss ds dy] (aO (aZ 9 .skip (.exit 0)) (aO (.block 1 (ah [J 10 8,J 5 10] (ah [J 11 1,J 12 0,J 13 5,cE 14 4 dU ee,b5 15 4 14,aE 16 (.gj dp [dH])] (aZ 16 (a7 [J 17 5,J 4 17]) .skip)))) (bQ [aB 18 .add ds (ax 1),J 8 18]))))))) (a7 [bq 4 (ax (-1))]))
def r400:List bf:=[.t 4]
theorem W1:bL bb4 Tryz.f400 2 LV r400=true:=by kernel_rfl
end Go.ba.T.N
