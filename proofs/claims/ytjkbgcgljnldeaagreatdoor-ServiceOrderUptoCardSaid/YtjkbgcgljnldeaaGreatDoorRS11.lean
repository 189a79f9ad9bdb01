/- Part of a proof; own work. -/
import Derived.Lib.ItoaNum
import Derived.Lib.Strings
import Derived.Lib.Join
import Derived.Test.YtjkbgcgljnldeaaGreatDoorRS10
set_option linter.unusedVariables false
set_option linter.unusedSimpArgs false
set_option maxHeartbeats 4000000
namespace Go.bc
open Go Go.Proofs
section
variable {dD:Program}{anns:List I}{l:List bP}{env:Env}{K:Env→a1→Prop}{f:FuncId}{args:List aK}{dz:List I}{α β:Type}{g:α→I}{g':β→I}{en:Int}{jV:dL α}{R:dL β}{F:α→List ba→dL β}{jd:List ba}{n t d:Nat}{cW pB:fe}{ds:fp}{Rp:I→a1→Prop}
def nu (g:α→I):Prop:=∀a,(g a).flat=true
theorem B2 {T:TypeId}{cs:List I}(ag:hB ⟨[0],[]⟩ cs=cs) (hb:nV 0 cW=pB):(a1.of n t cW ds).mM ⟨[0],[]⟩ [(0,T,cs)] []=a1.of n t ((0,T,cs)::pB) ds:=by
 rw[zn]
 simp only[sa,sb,DT,ag,List.filter_cons,List.filter_nil,List.contains_cons,List.contains_nil,beq_self_eq_true,Bool.true_or,if_true,sc,se,hb,qj,qk]
theorem ar4 (l:List ba) (en:Int):dr 1 0 (fz l en)=true:=by
 simp only[fz,dr,I.cR,show fP (l.map ba.row)=true from qx (fun _=>rfl) l,Bool.and_self]
theorem tc (l:List ba) (en:Int):dP 1 0 [(0,83,fz l en)]=true:=by
 simp only[dP,ar4,Bool.and_true]
 rfl
theorem B1 (l:List ba) (en:Int):hB ⟨[0],[]⟩ (fz l en)=fz l en:=rfl
theorem D.Q (aY:nu g) (h:jV≠ .out→bz dD f dz (ps jd en) (k7 g en jV)) (an:R=jV.bind F) (ck:R≠ .out)
  (aC: ∀a r,jV= .ok a r→R=F a r→ae dD anns l ((d,g a)::env) (a1.of n t ((0,83,fz r en)::pB) ds) K Rp)
  (ah:(Nat.blt 0 n&&dr 1 0 dz)=true:=by simp (disch:=omega) only[go_sem,simprocAttr]<;>rfl) (dX:iA cW 0=some (83,fz jd en):=by rfl)
  (aP:args.map (bp env)=hB ⟨[0],[]⟩ dz:=by simp (disch:=omega) only[go_sem,simprocAttr]<;>rfl) (hP:nV 0 cW=pB:=by simp (disch:=omega) only[go_sem,simprocAttr]<;>with_reducible rfl) (hp: ∀p e,R= .err p e→∀cB,Rp (og p e) cB:=by intro p e h cB; rw[h]; exact rfl):
  ae dD anns (⟨some d,none,.call f args⟩::l) env (a1.of n t cW ds) K Rp:=by
 simp only[Bool.and_eq_true]at ah
 obtain⟨mT,c1⟩:=ah
 have eD:lX (a1.of n t cW ds).H.aU ⟨[0],[]⟩ [(0,83,fz jd en)]:=⟨dX,trivial⟩
 match jV,h,an,aC with
 | .out,_,an,_=>exact absurd an ck
 | .err p e,h,an,_=>
  refine D.ri (x:=og p e) ⟨[0],[]⟩ (h (fun h=>by cases h)) (fun cB=> ?_) ?_ eD trivial aP rfl
  ·exact hp p e an cB
  ·rw[c1]
   simp only[List.all_cons,List.all_nil,show (a1.of n t cW ds).b7=n from rfl,mT,tc]
   rfl
 | .ok a r,h,an,aC=>
  refine ae.pM (v:=g a) (bl1:=[(0,83,fz r en)]) (tl1:=[]) ⟨[0],[]⟩ (h (fun h=>by cases h)) ?_ eD trivial aP ?_
  ·rw[c1,yE _ (aY a)]
   simp only[List.all_cons,List.all_nil,show (a1.of n t cW ds).b7=n from rfl,mT,tc]
   rfl
  ·rw[yF _ (aY a),B2 (B1 r en) hP]
   exact aC a r rfl an
theorem D.tI {others:List Nat}(a0:α) (aY:nu g) (h:jV≠ .out→bz dD f dz (ps jd en) (k7 g en jV)) (an:R=jV.bind F) (ck:R≠ .out)
  (aC: ∀a r,jV= .ok a r→R=F a r→ae dD anns l ((d,g a)::env) (a1.of n t ((0,83,fz r en)::pB) ds) K Rp)
  (bw:ae dD anns l ((d,g a0)::env) (a1.of n (t+1) cW ((t,.bJ 0 0 0)::ds)) K Rp)
  (aq: ∀s∈others,∃bX cQ c3,env.get s= .ptr (bX+1) 0∧iA cW (bX+1)=some (cQ,c3)∧kq c3=true)
  (ah:(Nat.blt 0 n&&dr 1 0 dz)=true:=by simp (disch:=omega) only[go_sem,simprocAttr]<;>rfl) (dX:iA cW 0=some (83,fz jd en):=by rfl)
  (aP:args.map (bp env)=hB ⟨[0],[]⟩ dz:=by simp (disch:=omega) only[go_sem,simprocAttr]<;>rfl) (hP:nV 0 cW=pB:=by simp (disch:=omega) only[go_sem,simprocAttr]<;>with_reducible rfl) (hp: ∀p e,R= .err p e→∀cB,Rp (og p e) cB:=by intro p e h cB; rw[h]; exact rfl):
  ae dD anns (⟨some d,none,.hM others f args⟩::l) env (a1.of n t cW ds) K Rp:=by
 simp only[Bool.and_eq_true]at ah
 obtain⟨mT,c1⟩:=ah
 have eD:lX (a1.of n t cW ds).H.aU ⟨[0],[]⟩ [(0,83,fz jd en)]:=⟨dX,trivial⟩
 have LZ:(nodupB [0]&&nodupB []&&[0].all (fun x=>Nat.blt x (a1.of n t cW ds).b7)&&[].all (fun x=>Nat.blt x (a1.of n t cW ds).bF))=true:=by
  simp only[List.all_cons,List.all_nil,show (a1.of n t cW ds).b7=n from rfl,mT,tc]
  rfl
 match jV,h,an,aC with
 | .out,_,an,_=>exact absurd an ck
 | .err p e,h,an,_=>
  refine D.S1 (x:=og p e) ⟨[0],[]⟩ (g a0) (h (fun h=>by cases h)) ?_ (fun cB=> ?_) (fun s ap=> ?_) (aY a0) ?_ eD trivial aP rfl
  ·rw[ER]
   exact bw
  ·exact hp p e an cB
  ·obtain⟨bX,cQ,c3,ar,ax,cw⟩:=aq s ap
   refine⟨bX+1,cQ,c3,ar,ax,?_,cw⟩
   rw[zn]
   simp only[sa,sb,List.filter_nil,sc,se,qj,qk,ES]
   rw[xt (by rfl)]
   exact ax
  ·rw[c1]
   simp only[List.all_cons,List.all_nil,show (a1.of n t cW ds).b7=n from rfl,mT,tc]
   rfl
 | .ok a r,h,an,aC=>
  refine ae.a8 (b:=0) (T:=83) (cs:=fz r en) (c1:=a1.of n t ((0,83,fz r en)::pB) ds) (v:=g a) ?_ aP ?_ mT ?_ (aY a) (fun s ap=> ?_) (aC a r rfl an)
  ·have:=bz.pM (c:=a1.of n t cW ds) ⟨[0],[]⟩ (h (fun h=>by cases h)) rfl rfl LZ eD trivial (by rw[c1,tc]; rfl) (by rw[yE _ (aY a),tc]; rfl) rfl
   rw[yF _ (aY a),B2 (B1 r en) hP]at this
   exact this
  ·rw[BO,hP]
  ·simp only[fz,dr,I.cR,show fP (r.map ba.row)=true from qx (fun _=>rfl) r,Bool.and_self]
  ·obtain⟨bX,cQ,c3,ar,ax,cw⟩:=aq s ap
   exact⟨bX+1,cQ,c3,ar,ax,rfl,cw⟩
theorem D.GY {x:aK}{T:TypeId}{v:I}{c:a1}(h:Rp (.gW T v) c) (ab:bp env x= .gW T v:=by simp (disch:=omega) only[go_sem,simprocAttr]<;>with_reducible rfl):ae dD anns (⟨none,none,.panic x⟩::l) env c K Rp:=ae.aq8 rfl ab h
theorem uz (n:Nat):((n:Int)+1=0)=False:=by simp only[eq_iff_iff,iff_false]; omega
theorem uf (n:Nat):(0<(n:Int)+1)=True:=by simp only[eq_iff_iff,iff_true]; omega
theorem uA (n:Nat):(((n+1:Nat):Int)=0)=False:=by simp only[eq_iff_iff,iff_false]; omega
theorem ug (n:Nat):(0<((n+1:Nat):Int))=True:=by simp only[eq_iff_iff,iff_true]; omega
theorem D.mi {size:Nat}{x:aK}{row:List I}{rows:List (List I)}{c:a1}(aC:ae dD anns l ((d,.ay size rows)::env) c K Rp) (ab:bp env x= .ay size (row::rows):=by simp (disch:=omega) only[go_sem,simprocAttr]<;>with_reducible rfl):ae dD anns (⟨some d,none,.h9 size x (some (.c (.int .i64 1))) none none⟩::l) env c K Rp:=by
 refine ae.aG5 (rows:=row::rows) (z:=1) (ik:= .i64) 1 ?_ rfl rfl (by simp) aC
 rw[ab]
 simp [mG]
def S9 {α:Type}(f:α→I) (en:Int):dL α→Out→a1→Prop
 | .ok a l=>tJ (f a) [(0,83,fz l en)] []
 | .err p e=>uZ (og p e)
 | .out=>fun _ _=>False
theorem bz.tm {c:a1}(aY:nu g) (h:bz dD f dz c (S9 g en jV)):bz dD f dz c (k7 g en jV):=by
 cases jV with
 |ok a l=>exact bz.rw h (aY a)
 |err p e=>exact h
 |out=>exact h
def wy (s:List UInt8) (l:List ba):List ba:=if eQ s l=true then l.tail else l
theorem D.A {s:List UInt8}(h:bz dD f dz (ps jd en) (fJ (.bool (eQ s jd)) [(0,83,fz (wy s jd) en)] []))
  (J:eQ s jd=true→ae dD anns l ((d,.bool true)::env) (a1.of n t ((0,83,fz jd.tail en)::pB) ds) K Rp)
  (aa:eQ s jd=false→ae dD anns l ((d,.bool false)::env) (a1.of n t ((0,83,fz jd en)::pB) ds) K Rp)
  (ah:(Nat.blt 0 n&&dr 1 0 dz)=true:=by simp (disch:=omega) only[go_sem,simprocAttr]<;>rfl) (dX:iA cW 0=some (83,fz jd en):=by rfl)
  (aP:args.map (bp env)=hB ⟨[0],[]⟩ dz:=by simp (disch:=omega) only[go_sem,simprocAttr]<;>rfl) (hP:nV 0 cW=pB:=by simp (disch:=omega) only[go_sem,simprocAttr]<;>with_reducible rfl):
  ae dD anns (⟨some d,none,.call f args⟩::l) env (a1.of n t cW ds) K Rp:=by
 simp only[Bool.and_eq_true]at ah
 obtain⟨mT,c1⟩:=ah
 refine ae.pM (v:= .bool (eQ s jd)) (bl1:=[(0,83,fz (wy s jd) en)]) (tl1:=[]) ⟨[0],[]⟩ h ?_ ⟨dX,trivial⟩ trivial aP ?_
 ·rw[c1]
  simp only[List.all_cons,List.all_nil,show (a1.of n t cW ds).b7=n from rfl,mT,tc]
  rfl
 ·rw[B2 (B1 _ en) hP]
  simp only[I.eF,wy]
  cases e:eQ s jd with
  |true=>exact J e
  |false=>exact aa e
end
end Go.bc
namespace Go.bc
open Go
theorem cg {α β:Type}{R:dL α}{F:α→List ba→dL β}{a:β}{r:List ba}(h:R.bind F= .ok a r): ∃b dn,R= .ok b dn∧F b dn= .ok a r:=by
 cases R with
 |ok b dn=>exact⟨b,dn,rfl,h⟩
 |err p e=>cases h
 |out=>cases h
theorem okB {α β:Type}(a:α) (r:List ba) (F:α→List ba→dL β):(dL.ok a r).bind F=F a r:=rfl
theorem bind_assoc {α β aN9:Type}(R:dL α) (F:α→List ba→dL β) (G:β→List ba→dL aN9):(R.bind F).bind G=R.bind fun a r=>(F a r).bind G:=by cases R<;>rfl
theorem Au {α β:Type}{R:dL β}{jV:dL α}{F:α→List ba→dL β}(h:R=jV.bind F): ∃G,G=F∧R=jV.bind G:=⟨F,rfl,h⟩
theorem eZ {s:List UInt8}{l:List ba}(h:eQ s l=true):l.tail.length+1=l.length:=by
 cases l with
 |nil=>cases h
 |cons t l=>rfl
section
variable {en:Int}
theorem ea {s:List UInt8}{l r:List ba}{a:Unit}(h:gm en s l= .ok a r):r.length+1=l.length:=by
 unfold gm at h
 split at h
 ·rename_i J
  cases h
  exact eZ J
 ·cases h
theorem ow {k:Int}{l r:List ba}{a:ba}(h:jN en k l= .ok a r):r.length+1=l.length:=by
 cases l with
 |nil=>cases h
 |cons t l=>
  simp only[jN]at h
  split at h
  ·cases h; rfl
  ·cases h
theorem gR {l r:List ba}{a:List UInt8}(h:jO en l= .ok a r):r.length+1=l.length:=by
 unfold jO at h
 split at h
 ·obtain⟨t,dn,J,h⟩:=cg h
  cases h
  exact ow J
 ·cases h
theorem Oe: ∀ {n:Nat}{s:List UInt8}{l r:List ba}{a:List UInt8},l6 en n s l= .ok a r→r.length≤l.length
 |0,_,_,_,_,h=>by cases h
 |n+1,s,l,r,a,h=>by
  simp only[l6]at h
  split at h
  ·rename_i aw
   obtain⟨w,bO,J,h⟩:=cg h
   have:=gR J
   have:=Oe h
   have:=eZ aw
   omega
  ·cases h
   exact Nat.le_refl _
theorem uE {n:Nat}{l r:List ba}{a:List UInt8}(h:nU en n l= .ok a r):r.length<l.length:=by
 obtain⟨w,bO,J,h⟩:=cg h
 have:=gR J
 have:=Oe h
 omega
theorem nT: ∀n,(∀l x r,ht en n l= .ok x r→r.length<l.length)∧(∀k l x r,gY en n k l= .ok x r→r.length<l.length)∧(∀k y l x r,jw en n k y l= .ok x r→r.length≤l.length)
 |0=>⟨fun l x r h=>by simp [ht]at h,fun k l x r h=>by simp [gY]at h,fun k y l x r h=>by simp [jw]at h⟩
 |n+1=>by
  obtain⟨i1,i2,i3⟩:=nT n
  refine⟨fun l x r h=> ?_,fun k l x r h=> ?_,fun k y l x r h=> ?_⟩
  ·simp only[ht]at h
   split at h
   ·rename_i aw
    obtain⟨x,bO,J,h⟩:=cg h
    obtain⟨_,b4,aa,h⟩:=cg h
    cases h
    have:=i2 _ _ _ _ J
    have:=ea aa
    have:=eZ aw
    omega
   split at h
   ·rename_i aw
    obtain⟨_,bO,J,h⟩:=cg h
    obtain⟨x,b4,aa,h⟩:=cg h
    obtain⟨_,cJ,au,h⟩:=cg h
    cases h
    have:=i2 _ _ _ _ aa
    have:=ea J
    have:=ea au
    have:=eZ aw
    omega
   split at h
   ·rename_i aw
    obtain⟨x,bO,J,h⟩:=cg h
    cases h
    have:=i1 _ _ _ J
    have:=eZ aw
    omega
   split at h
   ·rename_i aw
    obtain⟨x,bO,J,h⟩:=cg h
    cases h
    have:=i1 _ _ _ J
    have:=eZ aw
    omega
   split at h
   ·obtain⟨x,bO,J,h⟩:=cg h
    cases h
    have:=gR J
    omega
   split at h
   ·obtain⟨x,bO,J,h⟩:=cg h
    cases h
    have:=ow J
    omega
   split at h
   ·cases h
   ·obtain⟨x,bO,J,h⟩:=cg h
    cases h
    have:=ow J
    omega
  ·simp only[gY]at h
   obtain⟨y,bO,J,h⟩:=cg h
   have:=i1 _ _ _ J
   have:=i3 _ _ _ _ _ h
   omega
  ·simp only[jw]at h
   cases l with
   |nil=>cases h; exact Nat.le_refl _
   |cons t l=>
    simp only at h
    split at h
    ·split at h
     ·cases h; exact Nat.le_refl _
     ·obtain⟨z,bO,J,h⟩:=cg h
      have:=i2 _ _ _ _ J
      have:=i3 _ _ _ _ _ h
      simp only[List.length_cons]
      omega
    ·cases h; exact Nat.le_refl _
theorem zu: ∀n,(∀l x r,iP en n l= .ok x r→r.length<l.length)∧(∀acc l x r,jK en n acc l= .ok x r→r.length<l.length)∧(∀l x r,je en n l= .ok x r→r.length<l.length)∧(∀l x r,iQ en n l= .ok x r→r.length<l.length)
 |0=>⟨fun l x r h=>by simp [iP]at h,fun a l x r h=>by simp [jK]at h,fun l x r h=>by simp [je]at h,fun l x r h=>by simp [iQ]at h⟩
 |n+1=>by
  obtain⟨i1,i2,i3,i4⟩:=zu n
  have ax:=(nT (en:=en) n).2.1
  refine⟨fun l x r h=> ?_,fun a l x r h=> ?_,fun l x r h=> ?_,fun l x r h=> ?_⟩
  ·simp only[iP]at h
   obtain⟨_,bO,J,h⟩:=cg h
   have:=ea J
   have:=i2 _ _ _ _ h
   omega
  ·simp only[jK]at h
   split at h
   ·rename_i aw
    cases h
    have:=eZ aw
    omega
   ·obtain⟨y,bO,J,h⟩:=cg h
    have:=i3 _ _ _ J
    have:=i2 _ _ _ _ h
    omega
  ·simp only[je]at h
   split at h
   ·rename_i aw
    have:=eZ aw
    have:=i4 _ _ _ h
    omega
   split at h
   ·rename_i aw
    have:=eZ aw
    obtain⟨y,bO,J,h⟩:=cg h
    obtain⟨_,b4,aa,h⟩:=cg h
    split at h
    ·cases h
    obtain⟨t,cJ,au,h⟩:=cg h
    obtain⟨b,fk,bn,h⟩:=cg h
    cases h
    have:=ax _ _ _ _ J
    have:=ea aa
    have:=ow au
    have:=i1 _ _ _ bn
    omega
   ·obtain⟨w,bO,J,h⟩:=cg h
    obtain⟨_,b4,aa,h⟩:=cg h
    obtain⟨y,cJ,au,h⟩:=cg h
    obtain⟨_,fk,bn,h⟩:=cg h
    cases h
    have:=gR J
    have:=ea aa
    have:=ax _ _ _ _ au
    have:=ea bn
    omega
  ·simp only[iQ]at h
   obtain⟨y,bO,J,h⟩:=cg h
   obtain⟨b,b4,aa,h⟩:=cg h
   have:=ax _ _ _ _ J
   have:=i1 _ _ _ aa
   split at h
   ·rename_i aw
    have:=eZ aw
    split at h
    ·rename_i bL
     have:=eZ bL
     obtain⟨z,cJ,au,h⟩:=cg h
     cases h
     have:=i4 _ _ _ au
     omega
    ·obtain⟨z,cJ,au,h⟩:=cg h
     cases h
     have:=i1 _ _ _ au
     omega
   ·cases h
    omega
theorem E9 {l r:List ba}{a:Int}(h:mD en l= .ok a r):r.length<l.length:=by
 unfold mD at h
 split at h
 ·rename_i aw
  obtain⟨t,bO,J,h⟩:=cg h
  cases h
  have:=ow J
  have:=eZ aw
  omega
 ·obtain⟨t,bO,J,h⟩:=cg h
  cases h
  have:=ow J
  omega
theorem ao5 {l r:List ba}{a:Int×Int×Int}(h:r8 en l= .ok a r):r.length<l.length:=by
 unfold r8 at h
 split at h
 ·rename_i aw
  obtain⟨_,bO,J,h⟩:=cg h
  obtain⟨_,b4,aa,h⟩:=cg h
  obtain⟨_,cJ,au,h⟩:=cg h
  cases h
  have:=ow J
  have:=ea aa
  have:=ow au
  have:=eZ aw
  omega
 ·obtain⟨_,bO,J,h⟩:=cg h
  obtain⟨_,b4,aa,h⟩:=cg h
  obtain⟨_,cJ,au,h⟩:=cg h
  obtain⟨_,fk,bn,h⟩:=cg h
  cases h
  have:=ea J
  have:=E9 aa
  have:=ea au
  have:=E9 bn
  omega
theorem an3 {l r:List ba}{a:Int×Int×List UInt8}(h:r7 en l= .ok a r):r.length<l.length:=by
 unfold r7 at h
 split at h
 ·obtain⟨_,bO,J,h⟩:=cg h
  cases h
  have:=ow J
  omega
 ·obtain⟨_,bO,J,h⟩:=cg h
  cases h
  exact E9 J
theorem BV {l r:List ba}{a:cb}(h:qW en l= .ok a r):r.length<l.length:=by
 obtain⟨_,bO,J,h⟩:=cg h
 obtain⟨_,b4,aa,h⟩:=cg h
 obtain⟨_,cJ,au,h⟩:=cg h
 obtain⟨_,fk,bn,h⟩:=cg h
 obtain⟨_,jQ,bL,h⟩:=cg h
 obtain⟨_,oz,cq,h⟩:=cg h
 cases h
 have:=gR J
 have:=ea aa
 have:=ao5 au
 have:=ea bn
 have:=an3 bL
 have:=ea cq
 omega
theorem E1: ∀ {n:Nat}{acc:List (List UInt8)}{l r:List ba}{a:List (List UInt8)},lm en n acc l= .ok a r→r.length≤l.length
 |0,_,_,_,_,h=>by cases h
 |n+1,s,l,r,a,h=>by
  simp only[lm]at h
  split at h
  ·rename_i aw
   obtain⟨w,bO,J,h⟩:=cg h
   have:=gR J
   have:=E1 h
   have:=eZ aw
   omega
  ·cases h
   exact Nat.le_refl _
theorem EY: ∀ {n:Nat}{acc:List ad}{l r:List ba}{a:List ad},ll en n acc l= .ok a r→r.length≤l.length
 |0,_,_,_,_,h=>by cases h
 |n+1,s,l,r,a,h=>by
  simp only[ll]at h
  split at h
  ·rename_i aw
   obtain⟨w,bO,J,h⟩:=cg h
   have:=(nT n).2.1 _ _ _ _ J
   have:=EY h
   have:=eZ aw
   omega
  ·cases h
   exact Nat.le_refl _
theorem EZ {n:Nat}{l r:List ba}{a:cd}(h:nk en n l= .ok a r):r.length<l.length:=by
 obtain⟨_,bO,J,h⟩:=cg h
 obtain⟨_,b4,aa,h⟩:=cg h
 obtain⟨_,cJ,au,h⟩:=cg h
 obtain⟨_,fk,bn,h⟩:=cg h
 obtain⟨_,jQ,bL,h⟩:=cg h
 obtain⟨_,oz,cq,h⟩:=cg h
 cases h
 have:=uE J
 have:=ea aa
 have:cJ.length≤b4.length:=by
  unfold nn at au
  split at au
  ·cases au
   simp
  ·obtain⟨_,s1,g1,au⟩:=cg au
   obtain⟨_,s2,g2,au⟩:=cg au
   obtain⟨_,oA,g3,au⟩:=cg au
   cases au
   have:=gR g1
   have:=E1 g2
   have:=ea g3
   omega
 have:=ea bn
 have:=gR bL
 have:=(zu n).1 _ _ _ cq
 omega
theorem E0 {n:Nat}{l r:List ba}{a:ca}(h:nl en n l= .ok a r):r.length<l.length:=by
 obtain⟨_,bO,J,h⟩:=cg h
 obtain⟨_,b4,aa,h⟩:=cg h
 obtain⟨_,cJ,au,h⟩:=cg h
 obtain⟨_,fk,bn,h⟩:=cg h
 obtain⟨_,jQ,bL,h⟩:=cg h
 obtain⟨_,oz,cq,h⟩:=cg h
 obtain⟨_,Ra,j0,h⟩:=cg h
 cases h
 have:=uE J
 have:=ea aa
 have:cJ.length≤b4.length:=by
  unfold nj at au
  split at au
  ·cases au
   simp
  ·obtain⟨_,s1,g1,au⟩:=cg au
   obtain⟨_,s2,g2,au⟩:=cg au
   obtain⟨_,oA,g3,au⟩:=cg au
   cases au
   have:=(nT n).2.1 _ _ _ _ g1
   have:=EY g2
   have:=ea g3
   omega
 have:=ea bn
 have:=gR bL
 have:oz.length≤jQ.length:=by
  unfold ox at cq
  split at cq
  ·rename_i aw
   obtain⟨_,s1,g1,cq⟩:=cg cq
   cases cq
   have:=(nT n).2.1 _ _ _ _ g1
   have:=eZ aw
   omega
  ·cases cq
   exact Nat.le_refl _
 have:=ea j0
 omega
end
end Go.bc
namespace Go.bc.T.N
open Go Go.bc Go.Proofs Go.RowKit
set_option maxRecDepth 100000
attribute [local irreducible] Go.bc.aj Go.bc.ae Go.bc.bz
attribute [go_sem] wrap64 SI SJ MX decide_true decide_false dst Ba Lc Ld y8 r1 dr dP dV fO I.cR kq I.kU Ny NC NA M9 Nr Ns Nt Ng Nh Ni Nj Nk Nl M3 M4 Nd NB ND Nz Na Nq No Np Nu NE NF Nf Nv Nw Nc Nb Nx Nn M6 M5 M2 NG NH M8 M7 fj HV HU Env.get xE xD BO NL NP ER zn ES NQ NM NO NN nV sd sc se sa sb qj qk iA jI DT K2 hB I.eF H6 Ic NR NS NI NJ tR qn uL sG tP HP HO H2 I.cells I.eo I.flat b3 fP gx kP I.one I.iB gM oe mG mw initFrom oa tU tT cond_true cond_false beq_self_eq_true Bool.not_true Bool.not_false beq_true beq_false eq_self if_true Option.some.injEq List.length_cons List.length_nil List.take_succ_cons List.take_zero List.drop_succ_cons List.drop_zero List.set_cons_succ List.set_cons_zero List.nil_append List.cons_append List.append_nil and_self Option.map_some Option.map_none List.map_cons List.map_nil Bool.false_eq_true if_false Nat.zero_add Nat.add_zero true_and and_true Bool.and_true Bool.true_and List.getElem?_cons_zero List.getElem?_cons_succ Nat.zero_le Nat.le_refl List.all_cons List.all_nil List.flatten_cons List.flatten_nil qq rr List.filter_cons List.filter_nil List.contains_cons List.contains_nil Bool.or_false Bool.or_true Bool.false_or Bool.true_or
section
attribute [local go_sem] fz ba.row List.tail_cons List.tail_nil uz uf uA ug
theorem oC (l:List ba):fP (l.map ba.row)=true:=qx (fun _=>rfl) l
attribute [local go_sem] oC
def sT:Unit→I:=fun _=> .di []
def rJ:List UInt8→I:= .str
def sR:Int→I:= .int .i64
def sS:ba→I:=fun t=> .agg t.row
theorem ja:nu sT:=fun _=>rfl
theorem nG:nu rJ:=fun _=>rfl
theorem AZ:nu sR:=fun _=>rfl
theorem pL:nu sS:=fun _=>rfl
theorem uI (l:List ba) (en e:Int):bz Tryz.prog 91 [.ptr 0 0,.int .i64 e] (ps l en) (uZ (og (yD en l) e)):=by
 refine bz.intro bN Tryz.func91 VZ ?_
 unfold KB Ru
 simp(disch:=omega)only[go_sem,simprocAttr]
 cases l with
 |nil=>
  (repeat' first|refine D.S ?_|refine D.cN true true ?_|refine ae.nil ?_|refine aj.b6 ?_|refine D.W ?_|refine D.Z ?_|refine D.G ?_ ?_|refine D.X ‹_› ?_|refine D.eh ‹_› ?_|refine D.ei ‹_› ?_|intro h|refine D.C ?_ ?_)
  refine D.GY ?_
  exact rfl
 |cons t r=>
  (repeat' first|refine D.S ?_|refine D.cN true true ?_|refine ae.nil ?_|refine aj.b6 ?_|refine D.W ?_|refine D.Z ?_|refine D.G ?_ ?_|refine D.X ‹_› ?_|refine D.eh ‹_› ?_|refine D.ei ‹_› ?_|intro h|refine D.C ?_ ?_)
  refine D.GY ?_
  exact rfl
theorem p2 (k:Int) (l:List ba) (en:Int):jN en k l≠ .out→bz Tryz.prog 151 [.ptr 0 0,.int .i64 k] (ps l en) (k7 sS en (jN en k l)):=by
 intro ck
 refine bz.intro bN Tryz.func151 Uz ?_
 unfold Jo P0
 simp(disch:=omega)only[go_sem,simprocAttr]
 cases l with
 |nil=>
  (repeat' first|refine D.S ?_|refine D.cN true true ?_|refine ae.nil ?_|refine aj.b6 ?_|refine D.W ?_|refine D.Z ?_|refine D.G ?_ ?_|refine D.X ‹_› ?_|refine D.eh ‹_› ?_|refine D.ei ‹_› ?_|intro h|refine D.C ?_ ?_)
  exact D.ri ⟨[0],[]⟩ (uI [] en 3) fun _=>rfl
 |cons t r=>
  simp only[jN]
  (repeat' first|refine D.S ?_|refine D.cN true true ?_|refine ae.nil ?_|refine aj.b6 ?_|refine D.W ?_|refine D.Z ?_|refine D.G ?_ ?_|refine D.X ‹_› ?_|refine D.eh ‹_› ?_|refine D.ei ‹_› ?_|intro h|refine D.C ?_ ?_)
  ·have:t.kind≠k:=by simpa using h
   rw[if_neg this]
   exact D.ri ⟨[0],[]⟩ (uI (t::r) en 3) fun _=>rfl
  ·have:t.kind=k:=by simpa using h
   rw[if_pos this]
   refine D.mi ?_
   refine ao ?_
   refine D.r ?_
   exact⟨rfl,⟨rfl,trivial⟩,trivial⟩
theorem au4 (s:List UInt8) (l:List ba) (en:Int):bz Tryz.prog 152 [.ptr 0 0,.str s] (ps l en) (fJ (.bool (eQ s l)) [(0,83,fz l en)] []):=by
 refine bz.intro bN Tryz.func152 UA ?_
 unfold Jp P1
 simp(disch:=omega)only[go_sem,simprocAttr]
 cases l with
 |nil=>
  (repeat' first|refine D.S ?_|refine D.cN true true ?_|refine ae.nil ?_|refine aj.b6 ?_|refine D.W ?_|refine D.Z ?_|refine D.G ?_ ?_|refine D.X ‹_› ?_|refine D.eh ‹_› ?_|refine D.ei ‹_› ?_|intro h|refine D.C ?_ ?_)
  refine D.r ?_
  exact⟨rfl,⟨rfl,trivial⟩,trivial⟩
 |cons t r=>
  (repeat' first|refine D.S ?_|refine D.cN true true ?_|refine ae.nil ?_|refine aj.b6 ?_|refine D.W ?_|refine D.Z ?_|refine D.G ?_ ?_|refine D.X ‹_› ?_|refine D.eh ‹_› ?_|refine D.ei ‹_› ?_|intro h|refine D.C ?_ ?_)
  all_goals
   refine D.r ?_
   refine⟨?_,⟨rfl,trivial⟩,trivial⟩
   simp_all [eQ]
theorem kT (s:List UInt8) (l:List ba) (en:Int):bz Tryz.prog 87 [.ptr 0 0,.str s] (ps l en) (fJ (.bool (eQ s l)) [(0,83,fz (wy s l) en)] []):=by
 refine bz.intro bN Tryz.func87 VV ?_
 unfold Kx Ro
 simp(disch:=omega)only[go_sem,simprocAttr]
 refine ao ?_
 refine D.F ⟨[0],[]⟩ (au4 s l en) ?_
 (repeat' first|refine D.S ?_|refine D.cN true true ?_|refine ae.nil ?_|refine aj.b6 ?_|refine D.W ?_|refine D.Z ?_|refine D.G ?_ ?_|refine D.X ‹_› ?_|refine D.eh ‹_› ?_|refine D.ei ‹_› ?_|intro h|refine D.C ?_ ?_)
 ·cases l with
  |nil=>cases h
  |cons t r=>
   refine ao ?_
   refine D.mi ?_
   refine ao ?_
   refine D.r ?_
   unfold wy
   rw[if_pos h,h]
   exact⟨rfl,⟨rfl,trivial⟩,trivial⟩
 ·refine D.r ?_
  unfold wy
  rw[if_neg (by rw[h]; decide),h]
  exact⟨rfl,⟨rfl,trivial⟩,trivial⟩
theorem iR (s:List UInt8) (l:List ba) (en:Int):gm en s l≠ .out→bz Tryz.prog 85 [.ptr 0 0,.str s] (ps l en) (k7 sT en (gm en s l)):=by
 intro ck
 unfold gm
 refine bz.intro bN Tryz.func85 VT ?_
 unfold wP Rm
 simp(disch:=omega)only[go_sem,simprocAttr]
 refine ao ?_
 refine D.A (kT s l en) (fun h=> ?_) (fun h=> ?_)
 ·rw[if_pos h]
  refine ao ?_
  refine D.r ?_
  exact⟨rfl,⟨rfl,trivial⟩,trivial⟩
 ·rw[if_neg (by rw[h]; decide)]
  refine ao ?_
  exact D.ri ⟨[0],[]⟩ (uI l en 3) fun _=>rfl
end
end Go.bc.T.N
namespace Go.bc.T.N
open Go Go.bc Go.Proofs Go.RowKit
set_option maxRecDepth 100000
attribute [local irreducible] Go.bc.aj Go.bc.ae Go.bc.bz
section
attribute [local go_sem] fz ba.row List.tail_cons List.tail_nil uz uf uA ug oC sT rJ sR sS
theorem OV (l:List ba) (en:Int):bz Tryz.prog 150 [.ptr 0 0] (ps l en) (fJ (.bool (nP l)) [(0,83,fz l en)] []):=by
 refine bz.intro bN Tryz.func150 Uy ?_
 unfold Jn PZ
 simp(disch:=omega)only[go_sem,simprocAttr]
 cases l with
 |nil=>
  (repeat' first|refine D.S ?_|refine D.cN true true ?_|refine ae.nil ?_|refine aj.b6 ?_|refine D.W ?_|refine D.Z ?_|refine D.G ?_ ?_|refine D.X ‹_› ?_|refine D.eh ‹_› ?_|refine D.ei ‹_› ?_|intro h|refine D.C ?_ ?_)
  refine D.r ?_
  exact⟨rfl,⟨rfl,trivial⟩,trivial⟩
 |cons t r=>
  (repeat' first|refine D.S ?_|refine D.cN true true ?_|refine ae.nil ?_|refine aj.b6 ?_|refine D.W ?_|refine D.Z ?_|refine D.G ?_ ?_|refine D.X ‹_› ?_|refine D.eh ‹_› ?_|refine D.ei ‹_› ?_|intro h|refine D.C ?_ ?_)
  ·refine D.P (qV t.text) ?_
   refine ao ?_
   refine D.r ?_
   refine⟨?_,⟨rfl,trivial⟩,trivial⟩
   simp_all [nP]
  ·refine D.r ?_
   refine⟨?_,⟨rfl,trivial⟩,trivial⟩
   simp_all [nP]
theorem pc (l:List ba) (en:Int):jO en l≠ .out→bz Tryz.prog 86 [.ptr 0 0] (ps l en) (k7 rJ en (jO en l)):=by
 intro ck
 obtain⟨R,an⟩: ∃R,R=jO en l:=⟨_,rfl⟩
 rw[←an]at ck ⊢
 unfold jO at an
 refine bz.intro bN Tryz.func86 VU ?_
 unfold Kw Rn
 simp(disch:=omega)only[go_sem,simprocAttr]
 refine ao ?_
 refine D.F ⟨[0],[]⟩ (OV l en) ?_
 cases hw:nP l
 all_goals rw[hw]at an
 all_goals (repeat' first|refine D.S ?_|refine D.cN true true ?_|refine ae.nil ?_|refine aj.b6 ?_|refine D.W ?_|refine D.Z ?_|refine D.G ?_ ?_|refine D.X ‹_› ?_|refine D.eh ‹_› ?_|refine D.ei ‹_› ?_|intro h|refine D.C ?_ ?_)
 ·rw[an]
  exact D.ri ⟨[0],[]⟩ (uI l en 3) fun _=>rfl
 ·refine D.Q pL (p2 1 l en) an ck fun a r h an=> ?_
  refine ao ?_
  refine D.r ?_
  rw[an]
  exact⟨rfl,⟨rfl,trivial⟩,trivial⟩
theorem B4 (l:List ba) (en:Int):mD en l≠ .out→bz Tryz.prog 153 [.ptr 0 0] (ps l en) (k7 sR en (mD en l)):=by
 intro ck
 obtain⟨R,an⟩: ∃R,R=mD en l:=⟨_,rfl⟩
 rw[←an]at ck ⊢
 unfold mD at an
 refine bz.intro bN Tryz.func153 UB ?_
 unfold Jq P2
 simp(disch:=omega)only[go_sem,simprocAttr]
 refine ao ?_
 refine D.A (kT _ l en) (fun h=> ?_) (fun h=> ?_)
 ·rw[if_pos h]at an
  refine ao ?_
  refine D.Q pL (p2 2 l.tail en) an ck fun a r h an=> ?_
  refine ao ?_
  refine D.r ?_
  rw[an]
  exact⟨rfl,⟨rfl,trivial⟩,trivial⟩
 ·rw[if_neg (by rw[h]; decide)]at an
  refine ao ?_
  refine D.Q pL (p2 2 l en) an ck fun a r h an=> ?_
  refine ao ?_
  refine D.r ?_
  rw[an]
  exact⟨rfl,⟨rfl,trivial⟩,trivial⟩
set_option maxHeartbeats 2000000 in
theorem B6 (s:List UInt8):Pure Tryz.prog 175 [.str s] (.int .i64 (cV s)):=by
 refine cF bN Tryz.func175 UU rfl rfl ?_
 unfold JI Ql
 simp(disch:=omega)only[go_sem,simprocAttr]
 (repeat' first|refine D.S ?_|refine D.cN true true ?_|refine ae.nil ?_|refine aj.b6 ?_|refine D.W ?_|refine D.Z ?_|refine D.G ?_ ?_|refine D.X ‹_› ?_|refine D.eh ‹_› ?_|refine D.ei ‹_› ?_|intro h|refine D.C ?_ ?_)
 all_goals
  simp only[decide_eq_true_eq,decide_eq_false_iff_not]at*
  refine D.r ?_
  refine⟨_,rfl,.av ?_ rfl,trivial,trivial⟩
  simp_all [cV,I.av]
theorem Mr {s:List UInt8}(h:db s=true):s.length≤16:=by
 cases s with
 |nil=>simp
 |cons c s=>
  simp only[db,mx,Bool.and_eq_true,decide_eq_true_eq]at h
  exact h.1.1
theorem BW {en:Int}{l r:List ba}{a:List UInt8}(h:jO en l= .ok a r):db a=true∧r.length+1=l.length:=by
 unfold jO at h
 cases l with
 |nil=>simp [nP]at h
 |cons t l=>
  simp only[nP,Bool.and_eq_true,decide_eq_true_eq,jN]at h
  split at h
  ·rename_i J
   rw[if_pos J.1]at h
   cases h
   exact⟨J.2,rfl⟩
  ·cases h
theorem ab7 {s:List UInt8}{l:List ba}(h:eQ s l=true):l.tail.length+1=l.length:=by
 cases l with
 |nil=>cases h
 |cons t l=>rfl
theorem OW (n:Nat) (l:List ba) (en:Int) (aH:l.length≤1000000):nU en n l≠ .out→bz Tryz.prog 154 [.ptr 0 0] (ps l en) (k7 rJ en (nU en n l)):=by
 intro ck
 obtain⟨R,an⟩: ∃R,R=nU en n l:=⟨_,rfl⟩
 rw[←an]at ck ⊢
 unfold nU at an
 refine bz.intro bN Tryz.func154 UC ?_
 unfold Jr P3
 simp(disch:=omega)only[go_sem,simprocAttr]
 refine ao ?_
 refine D.Q nG (pc l en) an ck fun a r aw an=> ?_
 have eB:=Mr (BW aw).1
 have dU:=(BW aw).2
 refine ao ?_
 refine aj.dd (X:=List UInt8×List ba×Nat) (a,r,n) (fun x=>[(0,.ptr 0 0),(3,.str x.1)]) (fun x=>[(0,83,fz x.2.1 en)]) (fun _=>[]) (fun x=>x.1.length+17*x.2.1.length≤17000016∧R=l6 en x.2.2 x.1 x.2.1) (fun x=>x.2.2) ⟨by simp only; omega,an⟩ ⟨rfl,rfl,trivial⟩ ⟨rfl,trivial⟩ trivial ?_
 rintro⟨s,l,n⟩ ⟨hb,an⟩
 simp only at hb an
 match n,an with
 |0,an=>exact absurd an ck
 |n+1,an=>
 simp only[l6]at an
 refine ao ?_
 refine D.A (kT _ l en) (fun h=> ?_) (fun h=> ?_)
 ·rw[if_pos h]at an
  have hi:=ab7 h
  refine ao ?_
  refine D.Q nG (pc l.tail en) an ck fun a r J an=> ?_
  have eB:=Mr (BW J).1
  have dU:=(BW J).2
  refine D.bR ?_
  refine ao ?_
  refine D.bR ?_
  refine ao ?_
  refine aj.dK (s++([46]++a),r,n) ⟨by simp only[List.length_cons,List.length_nil,List.length_append]; omega,an⟩ ⟨rfl,rfl,trivial⟩ ⟨rfl,trivial⟩ trivial rfl rfl (by show n<n+1; omega)
 ·rw[if_neg (by rw[h]; decide)]at an
  refine ao ?_
  refine D.r ?_
  rw[an]
  exact⟨rfl,⟨rfl,trivial⟩,trivial⟩
end
section
attribute [local go_sem] fz ba.row List.tail_cons List.tail_nil uz uf uA ug oC sT rJ sR sS ad.ct ad.b9 ad.de
def pN:ad→I:=fun x=> .agg x.row
theorem mX:nu pN:=fun x=>by simp only[pN,I.flat,ad.de]
theorem CH (k:Int) (o m t:List UInt8) (n:Int):kC (.agg [.int .i64 k,.str o,.str m,.str t,.int .i64 n,.aV]) (pN (.mk k o m t n [])):=
 .agg (.cons (.av rfl rfl) (.cons (.av rfl rfl) (.cons (.av rfl rfl) (.cons (.av rfl rfl) (.cons (.av rfl rfl) (.cons .nil .nil))))))
theorem wm (x:ad){v:I}(h:v= .agg x.row):kC v (pN x):=by
 subst h
 exact .av (GL _ (mX x)) (mX x)
attribute [local go_sem] pN
set_option maxHeartbeats 4000000 in
theorem p3 (en:Int): ∀N n,n≤N→(∀l,ht en n l≠ .out→bz Tryz.prog 191 [.ptr 0 0] (ps l en) (k7 pN en (ht en n l)))∧(∀k l,gY en n k l≠ .out→bz Tryz.prog 156 [.ptr 0 0,.int .i64 k] (ps l en) (k7 pN en (gY en n k l)))
 |N,0,_=>⟨fun l h=>absurd (by simp only[ht]) h,fun k l h=>absurd (by simp only[gY]) h⟩
 |N+1,n+1,bW=>by
  refine⟨fun l ck=>bz.tm mX ?_,fun k l ck=>bz.tm mX ?_⟩
  ·obtain⟨R,an⟩: ∃R,R=ht en (n+1) l:=⟨_,rfl⟩
   rw[←an]at ck ⊢
   simp only[ht]at an
   refine bz.intro bN Tryz.func191 U4 ?_
   unfold JQ Qv
   simp(disch:=omega)only[go_sem,simprocAttr]
   refine ao ?_
   refine D.A (kT _ l en) (fun h=> ?_) (fun h=> ?_)
   ·rw[if_pos h]at an
    refine ao ?_
    refine D.Q mX ((p3 en N n (by omega)).2 1 l.tail) an ck fun x r aw an=> ?_
    rcases x with ⟨eb,ef,ed,eg,ee,ec⟩
    refine ao ?_
    refine D.Q ja (iR _ r en) an ck fun a r aw an=> ?_
    refine ao ?_
    refine D.r ?_
    rw[an]
    exact⟨_,rfl,wm _ (by simp only[ad.ct]),⟨rfl,trivial⟩,trivial⟩
   rw[if_neg (by rw[h]; decide)]at an
   refine ao ?_
   refine D.A (kT _ l en) (fun h=> ?_) (fun h=> ?_)
   ·rw[if_pos h]at an
    refine ao ?_
    refine D.Q ja (iR _ l.tail en) an ck fun a r aw an=> ?_
    refine ao ?_
    refine D.Q mX ((p3 en N n (by omega)).2 1 r) an ck fun x r aw an=> ?_
    rcases x with ⟨eb,ef,ed,eg,ee,ec⟩
    refine ao ?_
    refine D.Q ja (iR _ r en) an ck fun a r aw an=> ?_
    refine ao ?_
    refine D.r ?_
    rw[an]
    exact⟨_,rfl,wm _ (by simp only[ad.ct,List.map_cons,List.map_nil]),⟨rfl,trivial⟩,trivial⟩
   rw[if_neg (by rw[h]; decide)]at an
   refine ao ?_
   refine D.A (kT _ l en) (fun h=> ?_) (fun h=> ?_)
   ·rw[if_pos h]at an
    refine ao ?_
    refine D.Q mX ((p3 en N n (by omega)).1 l.tail) an ck fun x r aw an=> ?_
    rcases x with ⟨eb,ef,ed,eg,ee,ec⟩
    refine ao ?_
    refine D.r ?_
    rw[an]
    exact⟨_,rfl,wm _ (by simp only[ad.ct,List.map_cons,List.map_nil]),⟨rfl,trivial⟩,trivial⟩
   rw[if_neg (by rw[h]; decide)]at an
   refine ao ?_
   refine D.A (kT _ l en) (fun h=> ?_) (fun h=> ?_)
   ·rw[if_pos h]at an
    refine ao ?_
    refine D.Q mX ((p3 en N n (by omega)).1 l.tail) an ck fun x r aw an=> ?_
    rcases x with ⟨eb,ef,ed,eg,ee,ec⟩
    refine ao ?_
    refine D.r ?_
    rw[an]
    exact⟨_,rfl,wm _ (by simp only[ad.ct,List.map_cons,List.map_nil]),⟨rfl,trivial⟩,trivial⟩
   rw[if_neg (by rw[h]; decide)]at an
   refine ao ?_
   refine D.F ⟨[0],[]⟩ (OV l en) ?_
   cases hw:nP l
   rotate_left
   ·rw[if_pos hw]at an
    refine ao ?_
    refine D.Q nG (pc l en) an ck fun a r aw an=> ?_
    refine ao ?_
    refine D.r ?_
    rw[an]
    exact⟨_,rfl,CH _ _ _ _ _,⟨rfl,trivial⟩,trivial⟩
   rw[if_neg (by rw[hw]; decide)]at an
   cases l with
   |nil=>
    simp only[qN,u7,Bool.false_eq_true,if_false]at an
    refine ao ?_
    refine D.Q pL (p2 2 [] en) an ck fun a r aw an=> ?_
    cases aw
   |cons t l=>
    simp only[qN,u7,decide_eq_true_eq,Bool.and_eq_true]at an
    (repeat' first|refine D.S ?_|refine D.cN true true ?_|refine ae.nil ?_|refine aj.b6 ?_|refine D.W ?_|refine D.Z ?_|refine D.G ?_ ?_|refine D.X ‹_› ?_|refine D.eh ‹_› ?_|refine D.ei ‹_› ?_|intro h|refine D.C ?_ ?_)
    all_goals simp only[decide_eq_true_eq,decide_eq_false_iff_not]at*
    ·rw[if_pos h]at an
     refine D.Q pL (p2 3 _ en) an ck fun a r aw an=> ?_
     refine ao ?_
     refine D.r ?_
     rw[an]
     exact⟨_,rfl,CH _ _ _ _ _,⟨rfl,trivial⟩,trivial⟩
    ·rename_i g3 g2
     rw[if_neg g3,if_pos ⟨g2,h⟩]at an
     exact D.ri ⟨[0],[]⟩ (uI (t::l) en 2) fun _=>by rw[an]; exact rfl
    ·rename_i g3 g2
     rw[if_neg g3,if_neg fun bh=>h bh.2]at an
     refine D.Q pL (p2 2 _ en) an ck fun a r aw an=> ?_
     refine ao ?_
     refine D.r ?_
     rw[an]
     exact⟨_,rfl,CH _ _ _ _ _,⟨rfl,trivial⟩,trivial⟩
    ·rename_i g3
     rw[if_neg g3,if_neg fun bh=>h bh.1]at an
     refine D.Q pL (p2 2 _ en) an ck fun a r aw an=> ?_
     refine ao ?_
     refine D.r ?_
     rw[an]
     exact⟨_,rfl,CH _ _ _ _ _,⟨rfl,trivial⟩,trivial⟩
  ·obtain⟨R,an⟩: ∃R,R=gY en (n+1) k l:=⟨_,rfl⟩
   rw[←an]at ck ⊢
   simp only[gY]at an
   refine bz.intro bN Tryz.func156 UE ?_
   unfold Jt P5
   simp(disch:=omega)only[go_sem,simprocAttr]
   refine ao ?_
   refine D.Q mX ((p3 en N n (by omega)).1 l) an ck fun x r aw an=> ?_
   rcases x with ⟨eb,ef,ed,eg,ee,ec⟩
   refine ao ?_
   refine aj.dd (X:=ad×List ba×Nat) (.mk eb ef ed eg ee ec,r,n) (fun x=>[(0,.ptr 0 0),(1,.int .i64 k),(4,.ptr 1 0),(5,.ptr 2 0)]) (fun x=>[(0,83,fz x.2.1 en),(1,131,[.int .i64 0,.str [],.str [],.str [],.int .i64 0,.aV]),(2,131,x.1.row)]) (fun _=>[]) (fun x=>x.2.2≤n∧R=jw en x.2.2 k x.1 x.2.1) (fun x=>x.2.2) ⟨Nat.le_refl _,an⟩ ⟨rfl,rfl,rfl,rfl,trivial⟩ ⟨rfl,rfl,by rw[ad.ct]; rfl,trivial⟩ trivial ?_
   rintro⟨x,l,m⟩ ⟨hm,an⟩
   rcases x with ⟨eb,ef,ed,eg,ee,ec⟩
   simp only[ad.ct]at hm an ⊢
   match m,hm,an with
   |0,_,an=>exact absurd an ck
   |m+1,hm,an=>
   cases l with
   |nil=>
    simp only[jw]at an
    refine ao ?_
    refine D.r ?_
    rw[an]
    exact⟨_,rfl,wm _ (by simp only[ad.ct]),⟨rfl,trivial⟩,trivial⟩
   |cons t l=>
   simp only[jw]at an
   (repeat' first|refine D.S ?_|refine D.cN true true ?_|refine ae.nil ?_|refine aj.b6 ?_|refine D.W ?_|refine D.Z ?_|refine D.G ?_ ?_|refine D.X ‹_› ?_|refine D.eh ‹_› ?_|refine D.ei ‹_› ?_|intro h|refine D.C ?_ ?_)
   ·have bn:t.kind=4:=by simpa using h
    rw[if_pos bn]at an
    refine D.P (B6 t.text) ?_
    (repeat' first|refine D.S ?_|refine D.cN true true ?_|refine ae.nil ?_|refine aj.b6 ?_|refine D.W ?_|refine D.Z ?_|refine D.G ?_ ?_|refine D.X ‹_› ?_|refine D.eh ‹_› ?_|refine D.ei ‹_› ?_|intro h|refine D.C ?_ ?_)
    ·rw[if_pos (by simpa using h)]at an
     refine D.r ?_
     rw[an]
     exact⟨_,rfl,wm _ (by simp only[ad.ct]),⟨rfl,trivial⟩,trivial⟩
    ·rw[if_neg (by simpa using h)]at an
     have wP:=iR t.text (t::l) en
     rw[show gm en t.text (t::l)= .ok () l by simp [gm,eQ,bn]]at wP
     have Xg:bz Tryz.prog 85 [.ptr 0 0,.str t.text] (ps (t::l) en) (fJ (.di []) [(0,83,fz l en)] []):=wP (by nofun)
     clear wP
     refine D.F ⟨[0],[]⟩ (Xg) ?_
     have hp:=uG t.text
     refine ao ?_
     refine D.tI (.mk 0 [] [] [] 0 []) mX ((p3 en N m (by omega)).2 (cV t.text+1) l) an ck (fun y r J an=> ?_) ?_ ?_
     ·rcases y with ⟨sv,CK,x7,uU,x8,CJ⟩
      refine ao ?_
      refine aj.dK (.mk 6 t.text [] [] 0 [.mk eb ef ed eg ee ec,.mk sv CK x7 uU x8 CJ],r,m) ⟨by simp only; omega,an⟩ ⟨rfl,rfl,rfl,rfl,trivial⟩ ⟨rfl,rfl,by simp only[ad.ct,List.map_cons,List.map_nil]; rfl,trivial⟩ trivial rfl rfl (by show m<m+1; omega)
     ·refine ao ?_
      exact aj.dead 0 0 rfl
     ·intro s ap
      simp only[List.mem_singleton]at ap
      subst ap
      exact⟨1,_,_,rfl,rfl,by simp only[kq,I.kU,oC,ad.b9,Bool.and_self]⟩
   ·have bn: ¬t.kind=4:=by simpa using h
    rw[if_neg bn]at an
    refine D.r ?_
    rw[an]
    exact⟨_,rfl,wm _ (by simp only[ad.ct]),⟨rfl,trivial⟩,trivial⟩
end
section
attribute [local go_sem] fz ba.row List.tail_cons List.tail_nil uz uf uA ug oC sT rJ sR sS ad.ct ad.b9 ad.de pN ac.ct ac.b9 ac.de
def rK:ac→I:=fun x=> .agg x.row
def vl:List ac→I:=fun l=> .ay 11 (l.map ac.row)
theorem yC:nu rK:=fun x=>by simp only[rK,I.flat,ac.de]
theorem ua:nu vl:=fun l=>by simp only[vl,I.flat,ac.b9]
attribute [local go_sem] rK vl
theorem TG {α:Type}{R jV:dL α}(h:R=jV):R=jV.bind dL.ok:=by
 subst h
 cases R<;>rfl
theorem sr {l:List ac}:kC (.ay 11 (l.map ac.row)) (.ay 11 (l.map ac.row)):= .av rfl (by simp only[I.flat,ac.b9])
theorem zZ:kC .aV (.ay 11 (([]:List ac).map ac.row)):= .nil
theorem wl {k eb ee t:Int}{m ef ed eg:List UInt8}{ec:List ad}{A B:I}{a b:List ac}(fa:kC A (.ay 11 (a.map ac.row))) (dX:kC B (.ay 11 (b.map ac.row))):kC (.agg [.int .i64 k,.str m,.int .i64 eb,.str ef,.str ed,.str eg,.int .i64 ee,.ay 6 (ec.map ad.row),.int .i64 t,A,B]) (rK (.mk k m (.mk eb ef ed eg ee ec) t a b)):=by
 unfold rK
 rw[ac.ct,ad.ct]
 exact .agg (.cons (.av rfl rfl) (.cons (.av rfl rfl) (.cons (.av rfl rfl) (.cons (.av rfl rfl) (.cons (.av rfl rfl) (.cons (.av rfl rfl) (.cons (.av rfl rfl) (.cons (.av rfl (by simp only[I.flat,ad.b9])) (.cons (.av rfl rfl) (.cons fa (.cons dX .nil)))))))))))
set_option maxHeartbeats 4000000 in
theorem tg (en:Int): ∀N n,n≤N→(∀l,l.length≤1000000→iP en n l≠ .out→bz Tryz.prog 155 [.ptr 0 0] (ps l en) (k7 vl en (iP en n l)))∧(∀l,l.length≤1000000→je en n l≠ .out→bz Tryz.prog 190 [.ptr 0 0] (ps l en) (k7 rK en (je en n l)))∧(∀l,l.length≤1000000→iQ en n l≠ .out→bz Tryz.prog 209 [.ptr 0 0] (ps l en) (k7 rK en (iQ en n l)))
 |N,0,_=>⟨fun l _ h=>absurd (by simp only[iP]) h,fun l _ h=>absurd (by simp only[je]) h,fun l _ h=>absurd (by simp only[iQ]) h⟩
 |N+1,n+1,bW=>by
  refine⟨fun l aH ck=>bz.tm ua ?_,fun l aH ck=>bz.tm yC ?_,fun l aH ck=>bz.tm yC ?_⟩
  ·obtain⟨R,an⟩: ∃R,R=iP en (n+1) l:=⟨_,rfl⟩
   rw[←an]at ck ⊢
   simp only[iP]at an
   refine bz.intro bN Tryz.func155 UD ?_
   unfold Js P4
   simp(disch:=omega)only[go_sem,simprocAttr]
   refine ao ?_
   refine D.Q ja (iR _ l en) an ck fun a r aw an=> ?_
   have hi:=ea aw
   refine yc ?_
   refine aj.rL 3 11 133 rfl (by decide) ?_
   simp(disch:=omega)only[go_sem,simprocAttr]
   refine ao ?_
   refine aj.dd (X:=List ac×List ba×Nat) ([],r,n) (fun x=>[(0,.ptr 0 0),(3,.own 0 11 (x.1.map ac.row))]) (fun x=>[(0,83,fz x.2.1 en)]) (fun x=>[(0,.bJ 133 11 (x.1.map ac.row).length)]) (fun x=>x.2.2≤n∧x.1.length+x.2.1.length≤1000000∧R=jK en x.2.2 x.1 x.2.1) (fun x=>x.2.2) ⟨Nat.le_refl _,by simp only[List.length_nil]; omega,an⟩ ⟨rfl,rfl,trivial⟩ ⟨rfl,trivial⟩ ⟨rfl,trivial⟩ ?_
   rintro⟨acc,l,m⟩ ⟨hm,hb,an⟩
   simp only at hm hb an ⊢
   match m,hm,an with
   |0,_,an=>exact absurd an ck
   |m+1,hm,an=>
   simp only[jK]at an
   refine ao ?_
   refine D.A (kT _ l en) (fun h=> ?_) (fun h=> ?_)
   ·rw[if_pos h]at an
    refine ao ?_
    refine D.r ?_
    rw[an]
    exact⟨_,rfl,.av rfl (ua _),⟨rfl,trivial⟩,trivial⟩
   ·rw[if_neg (by rw[h]; decide)]at an
    refine ao ?_
    refine D.Q yC ((tg en N m (by omega)).2.1 l (by omega)) an ck fun x r J an=> ?_
    have eB:=(zu m).2.2.1 _ _ _ J
    rcases x with ⟨k,h7,⟨eb,ef,ed,eg,ee,ec⟩,t,a,b⟩
    refine ao ?_
    refine D.gL ?_
    refine ao ?_
    refine aj.dK (acc++[.mk k h7 (.mk eb ef ed eg ee ec) t a b],r,m) ⟨by simp only; omega,by simp only[List.length_append,List.length_cons,List.length_nil]; omega,an⟩ ⟨rfl,by simp only[List.map_append,List.map_cons,List.map_nil,ac.ct,ad.ct]; rfl,trivial⟩ ⟨rfl,trivial⟩ ⟨by simp only[List.map_append,List.map_cons,List.map_nil,List.length_append]; rfl,trivial⟩ rfl rfl (by show m<m+1; omega)
  ·obtain⟨R,an⟩: ∃R,R=je en (n+1) l:=⟨_,rfl⟩
   rw[←an]at ck ⊢
   simp only[je]at an
   refine bz.intro bN Tryz.func190 U3 ?_
   unfold JP Qu
   simp(disch:=omega)only[go_sem,simprocAttr]
   refine ao ?_
   refine D.A (kT _ l en) (fun h=> ?_) (fun h=> ?_)
   ·rw[if_pos h]at an
    have hi:=eZ h
    refine ao ?_
    refine D.Q yC ((tg en N n (by omega)).2.2 l.tail (by omega)) (TG an) ck fun x r aw an=> ?_
    rcases x with ⟨k,h7,⟨eb,ef,ed,eg,ee,ec⟩,t,a,b⟩
    refine ao ?_
    refine D.r ?_
    rw[an]
    exact⟨_,rfl,wl sr sr,⟨rfl,trivial⟩,trivial⟩
   rw[if_neg (by rw[h]; decide)]at an
   refine ao ?_
   refine D.A (kT _ l en) (fun h=> ?_) (fun h=> ?_)
   ·rw[if_pos h]at an
    have hi:=eZ h
    refine ao ?_
    refine D.Q mX ((p3 en n n (Nat.le_refl _)).2 1 l.tail) an ck fun x r aw an=> ?_
    have eB:=(nT n).2.1 _ _ _ _ aw
    rcases x with ⟨eb,ef,ed,eg,ee,ec⟩
    refine ao ?_
    refine D.Q ja (iR _ r en) an ck fun a b4 aw an=> ?_
    have dU:=ea aw
    clear aw
    cases b4 with
    |nil=>
     simp only[u6,Bool.false_eq_true,if_false]at an
     refine ao ?_
     refine D.Q pL (p2 2 [] en) an ck fun a r aw an=> ?_
     cases aw
    |cons t cJ=>
    simp only[u6,decide_eq_true_eq,Bool.and_eq_true,Bool.or_eq_true]at an
    simp only[List.length_cons]at dU
    (repeat' first|refine D.S ?_|refine D.cN true true ?_|refine ae.nil ?_|refine aj.b6 ?_|refine D.W ?_|refine D.Z ?_|refine D.G ?_ ?_|refine D.X ‹_› ?_|refine D.eh ‹_› ?_|refine D.ei ‹_› ?_|intro h|refine D.C ?_ ?_)
    all_goals simp only[decide_eq_true_eq,decide_eq_false_iff_not]at*
    ·rename_i g2
     rw[if_pos ⟨g2,.inl h⟩]at an
     exact D.ri ⟨[0],[]⟩ (uI (t::cJ) en 2) fun _=>by rw[an]; exact rfl
    ·rename_i g2 g1
     rw[if_pos ⟨g2,.inr h⟩]at an
     exact D.ri ⟨[0],[]⟩ (uI (t::cJ) en 2) fun _=>by rw[an]; exact rfl
    all_goals
     rw[if_neg (by omega)]at an
     refine D.Q pL (p2 2 _ en) an ck fun a r aw an=> ?_
     have jj:=ow aw
     simp only[List.length_cons]at jj
    ·refine ao ?_
     refine D.Q ua ((tg en N n (by omega)).1 r (by omega)) an ck fun b r aw an=> ?_
     refine ao ?_
     refine D.r ?_
     rw[an]
     exact⟨_,rfl,wl sr zZ,⟨rfl,trivial⟩,trivial⟩
    ·refine ao ?_
     refine D.Q ua ((tg en N n (by omega)).1 r (by omega)) an ck fun b r aw an=> ?_
     refine ao ?_
     refine D.r ?_
     rw[an]
     exact⟨_,rfl,wl sr zZ,⟨rfl,trivial⟩,trivial⟩
   rw[if_neg (by rw[h]; decide)]at an
   refine ao ?_
   refine D.Q nG (pc l en) an ck fun w r aw an=> ?_
   refine ao ?_
   refine D.Q ja (iR _ r en) an ck fun a r aw an=> ?_
   refine ao ?_
   refine D.Q mX ((p3 en n n (Nat.le_refl _)).2 1 r) an ck fun x r aw an=> ?_
   rcases x with ⟨eb,ef,ed,eg,ee,ec⟩
   refine ao ?_
   refine D.Q ja (iR _ r en) an ck fun a r aw an=> ?_
   refine ao ?_
   refine D.r ?_
   rw[an]
   exact⟨_,rfl,wl zZ zZ,⟨rfl,trivial⟩,trivial⟩
  ·obtain⟨R,an⟩: ∃R,R=iQ en (n+1) l:=⟨_,rfl⟩
   rw[←an]at ck ⊢
   simp only[iQ]at an
   refine bz.intro bN Tryz.func209 U8 ?_
   unfold JU Qz
   simp(disch:=omega)only[go_sem,simprocAttr]
   refine ao ?_
   refine D.Q mX ((p3 en n n (Nat.le_refl _)).2 1 l) an ck fun x r aw an=> ?_
   have eB:=(nT n).2.1 _ _ _ _ aw
   rcases x with ⟨eb,ef,ed,eg,ee,ec⟩
   clear aw
   refine ao ?_
   refine D.Q ua ((tg en N n (by omega)).1 r (by omega)) an ck fun b r aw an=> ?_
   have dU:=(zu n).1 _ _ _ aw
   clear aw
   refine ao ?_
   refine D.A (kT _ r en) (fun h=> ?_) (fun h=> ?_)
   ·rw[if_pos h]at an
    have jj:=eZ h
    refine ao ?_
    refine D.A (kT _ r.tail en) (fun h=> ?_) (fun h=> ?_)
    ·rw[if_pos h]at an
     have kD:=eZ h
     refine ao ?_
     refine D.Q yC ((tg en N n (by omega)).2.2 r.tail.tail (by omega)) an ck fun y r aw an=> ?_
     rcases y with ⟨k,h7,⟨sv,CK,x7,uU,x8,CJ⟩,t,a,c⟩
     refine ao ?_
     refine D.r ?_
     rw[an]
     exact⟨_,rfl,wl sr (.av (by simp only[List.map_cons,List.map_nil,ac.ct,ad.ct]; rfl) (by simp only[I.flat,ac.b9])),⟨rfl,trivial⟩,trivial⟩
    ·rw[if_neg (by rw[h]; decide)]at an
     refine ao ?_
     refine D.Q ua ((tg en N n (by omega)).1 r.tail (by omega)) an ck fun c r aw an=> ?_
     refine ao ?_
     refine D.r ?_
     rw[an]
     exact⟨_,rfl,wl sr sr,⟨rfl,trivial⟩,trivial⟩
   ·rw[if_neg (by rw[h]; decide)]at an
    refine ao ?_
    refine D.r ?_
    rw[an]
    exact⟨_,rfl,wl sr zZ,⟨rfl,trivial⟩,trivial⟩
end
section
attribute [local go_sem] fz ba.row List.tail_cons List.tail_nil uz uf uA ug oC sT rJ sR sS ad.ct ad.b9 ad.de pN cb.row
def DP:cb→I:=fun v=> .agg v.row
theorem KT:nu DP:=fun _=>rfl
set_option maxHeartbeats 4000000 in
theorem az1 (l:List ba) (en:Int):qW en l≠ .out→bz Tryz.prog 88 [.ptr 0 0] (ps l en) (k7 DP en (qW en l)):=by
 intro ck
 refine bz.tm KT ?_
 obtain⟨R,an⟩: ∃R,R=qW en l:=⟨_,rfl⟩
 rw[←an]at ck ⊢
 simp only[qW,r8]at an
 refine bz.intro bN Tryz.func88 VW ?_
 unfold Ky Rq
 simp(disch:=omega)only[go_sem,simprocAttr]
 refine ao ?_
 refine D.Q nG (pc l en) an ck fun w r aw an=> ?_
 refine ao ?_
 refine D.Q ja (iR _ r en) an ck fun a r aw an=> ?_
 clear aw
 refine ao ?_
 refine D.A (kT _ r en) (fun h=> ?_) (fun h=> ?_)
 rw[if_pos h]at an
 simp only[bind_assoc]at an
 clear h
 refine ao ?_
 refine D.Q pL (p2 2 _ en) an ck fun a r aw an=> ?_
 clear aw
 refine ao ?_
 refine D.Q ja (iR _ r en) an ck fun _ r aw an=> ?_
 clear aw
 refine ao ?_
 refine D.Q pL (p2 2 _ en) an ck fun b r aw an=> ?_
 clear aw
 simp only[okB]at an
 (repeat' first|refine D.S ?_|refine D.cN true true ?_|refine ae.nil ?_|refine aj.b6 ?_|refine D.W ?_|refine D.Z ?_|refine D.G ?_ ?_|refine D.X ‹_› ?_|refine D.eh ‹_› ?_|refine D.ei ‹_› ?_|intro h)
 rotate_left
 rw[if_neg (by rw[h]; decide)]at an
 simp only[bind_assoc]at an
 clear h
 refine ao ?_
 refine D.Q ja (iR _ r en) an ck fun _ r aw an=> ?_
 clear aw
 refine ao ?_
 refine D.Q AZ (B4 r en) an ck fun a r aw an=> ?_
 clear aw
 refine ao ?_
 refine D.Q ja (iR _ r en) an ck fun _ r aw an=> ?_
 clear aw
 refine ao ?_
 refine D.Q AZ (B4 r en) an ck fun b r aw an=> ?_
 clear aw
 simp only[okB]at an
 (repeat' first|refine D.S ?_|refine D.cN true true ?_|refine ae.nil ?_|refine aj.b6 ?_|refine D.W ?_|refine D.Z ?_|refine D.G ?_ ?_|refine D.X ‹_› ?_|refine D.eh ‹_› ?_|refine D.ei ‹_› ?_|intro h)
 all_goals
  refine D.Q ja (iR _ r en) an ck fun _ r aw an=> ?_
  clear aw
  simp only[r7]at an
  cases r with
  |nil=>
   simp only[qN,Bool.false_eq_true,if_false,bind_assoc]at an
   refine ao ?_
   refine D.Q AZ (B4 [] en) an ck fun v r aw an=> ?_
   simp [mD,eQ,jN,dL.bind]at aw
  |cons t r=>
  simp only[qN,decide_eq_true_eq]at an
  (repeat' first|refine D.S ?_|refine D.cN true true ?_|refine ae.nil ?_|refine aj.b6 ?_|refine D.W ?_|refine D.Z ?_|refine D.G ?_ ?_|refine D.X ‹_› ?_|refine D.eh ‹_› ?_|refine D.ei ‹_› ?_|intro h|refine D.C ?_ ?_)
  ·rw[if_pos (by simpa using h)]at an
   simp only[bind_assoc]at an
   refine D.Q pL (p2 3 _ en) an ck fun t r aw an=> ?_
   clear aw
   simp only[okB]at an
   refine ao ?_
   refine D.Q ja (iR _ r en) an ck fun _ r aw an=> ?_
   refine ao ?_
   refine D.r ?_
   rw[an]
   exact⟨_,rfl,.av rfl rfl,⟨rfl,trivial⟩,trivial⟩
  ·rw[if_neg (by simpa using h)]at an
   simp only[bind_assoc]at an
   refine D.Q AZ (B4 _ en) an ck fun v r aw an=> ?_
   clear aw
   simp only[okB]at an
   refine ao ?_
   refine D.Q ja (iR _ r en) an ck fun _ r aw an=> ?_
   refine ao ?_
   refine D.r ?_
   rw[an]
   exact⟨_,rfl,.av rfl rfl,⟨rfl,trivial⟩,trivial⟩
end
section
attribute [local go_sem] fz ba.row List.tail_cons List.tail_nil uz uf uA ug oC sT rJ sR sS ad.ct ad.b9 ad.de pN ac.ct ac.b9 ac.de rK vl cj eN
def A5:cd→I:=fun h=> .agg [.str h.eK,.str h.peer,.ay 1 (h.ps.map cj),.ay 11 (h.body.map ac.row)]
theorem KR:nu A5:=fun h=>by simp only[A5,I.flat,b3,eN,ac.b9,Bool.and_self]
theorem aN0 {l:List (List UInt8)}{t:Nat}:kC (.own t 1 (l.map cj)) (.ay 1 (l.map cj)):= .av rfl (by simp only[I.flat,eN])
set_option maxHeartbeats 8000000 in
theorem az2 (n:Nat) (l:List ba) (en:Int) (aH:l.length≤1000000):nk en n l≠ .out→bz Tryz.prog 89 [.ptr 0 0] (ps l en) (k7 A5 en (nk en n l)):=by
 intro ck
 refine bz.tm KR ?_
 obtain⟨R,an⟩: ∃R,R=nk en n l:=⟨_,rfl⟩
 rw[←an]at ck ⊢
 simp only[nk,nn]at an
 refine bz.intro bN Tryz.func89 VX ?_
 unfold Kz Rr
 simp(disch:=omega)only[go_sem,simprocAttr]
 refine ao ?_
 refine D.Q nG (OW n l en aH) an ck fun m r aw an=> ?_
 have eB:=uE aw
 clear aw
 refine ao ?_
 refine D.Q ja (iR _ r en) an ck fun _ r aw an=> ?_
 have dU:=ea aw
 clear aw
 refine ao ?_
 refine D.A (kT _ r en) (fun h=> ?_) (fun h=> ?_)
 ·rw[if_pos h]at an
  simp only[okB]at an
  have jj:=eZ h
  clear h
  refine ao ?_
  refine D.Q ja (iR _ _ en) an ck fun _ r aw an=> ?_
  have kD:=ea aw
  clear aw
  refine ao ?_
  refine D.Q nG (pc r en) an ck fun p r aw an=> ?_
  have qm:=gR aw
  clear aw
  refine ao ?_
  refine D.Q ua ((tg en n n (Nat.le_refl _)).1 r (by omega)) an ck fun b r aw an=> ?_
  refine ao ?_
  refine D.r ?_
  rw[an]
  exact⟨_,rfl,.agg (.cons (.av rfl rfl) (.cons (.av rfl rfl) (.cons .nil (.cons sr .nil)))),⟨rfl,trivial⟩,trivial⟩
 ·rw[if_neg (by rw[h]; decide)]at an
  simp only[bind_assoc]at an
  clear h
  refine bK ?_
  refine aj.oU 2 2 1 9 rfl rfl (by decide) ?_
  simp(disch:=omega)only[go_sem,simprocAttr]
  refine ao ?_
  refine D.tI [] nG (pc r en) an ck (fun w r aw an=> ?_) ?_ ?_
  rotate_left
  ·refine ao ?_
   refine D.gL ?_
   refine ao ?_
   exact aj.dead 1 0 rfl
  ·intro s ap
   simp only[List.mem_singleton]at ap
   subst ap
   exact⟨1,_,_,rfl,rfl,by simp only[kq,I.kU,fP,Bool.and_self]⟩
  have jj:=gR aw
  clear aw
  refine ao ?_
  refine D.gL ?_
  refine ao ?_
  obtain⟨G,hG,an⟩:=Au an
  refine aj.dd (X:=List (List UInt8)×List ba×Nat) ([w],r,n) (fun x=>[(0,.ptr 0 0),(2,.ptr 1 0),(3,.ptr 2 0)]) (fun x=>[(0,83,fz x.2.1 en),(1,109,[.str [],.str [],.aV,.aV]),(2,109,[.str m,.str [],.own 0 1 (x.1.map cj),.aV])]) (fun x=>[(0,.bJ 9 1 (x.1.map cj).length)]) (fun x=>x.1.length+x.2.1.length≤1000000∧R=(lm en x.2.2 x.1 x.2.1).bind G) (fun x=>x.2.2) ⟨by simp only[List.length_cons,List.length_nil]; omega,an⟩ ⟨rfl,rfl,rfl,trivial⟩ ⟨rfl,rfl,rfl,trivial⟩ ⟨rfl,trivial⟩ ?_
  rintro⟨acc,l,k⟩ ⟨hb,an⟩
  simp only at hb an ⊢
  match k,an with
  |0,an=>exact absurd an ck
  |k+1,an=>
  simp only[lm]at an
  refine ao ?_
  refine D.A (kT _ l en) (fun h=> ?_) (fun h=> ?_)
  ·rw[if_pos h]at an
   simp only[bind_assoc]at an
   have kD:=eZ h
   refine ao ?_
   refine D.tI [] nG (pc l.tail en) an ck (fun w r aw an=> ?_) ?_ ?_
   rotate_left
   ·refine ao ?_
    refine D.gL ?_
    refine ao ?_
    exact aj.dead 1 0 rfl
   ·intro s ap
    simp only[List.mem_singleton]at ap
    subst ap
    exact⟨1,_,_,rfl,rfl,by simp only[kq,I.kU,eN,fP,Bool.and_self]⟩
   have qm:=gR aw
   clear aw
   refine ao ?_
   refine D.gL ?_
   refine ao ?_
   refine aj.dK (acc++[w],r,k) ⟨by simp only[List.length_append,List.length_cons,List.length_nil]; omega,an⟩ ⟨rfl,rfl,rfl,trivial⟩ ⟨rfl,rfl,by simp only[List.map_append,List.map_cons,List.map_nil,cj]; rfl,trivial⟩ ⟨by simp only[List.map_append,List.map_cons,List.map_nil,List.length_append]; rfl,trivial⟩ rfl rfl (by show k<k+1; omega)
  ·rw[if_neg (by rw[h]; decide)]at an
   simp only[okB]at an
   rw[hG]at an
   clear h
   refine ao ?_
   refine D.Q ja (iR _ l en) an ck fun _ r aw an=> ?_
   have jj:=ea aw
   clear aw
   simp only[okB]at an
   refine ao ?_
   refine D.Q ja (iR _ r en) an ck fun _ r aw an=> ?_
   have kD:=ea aw
   clear aw
   refine ao ?_
   refine D.Q nG (pc r en) an ck fun p r aw an=> ?_
   have qm:=gR aw
   clear aw
   refine ao ?_
   refine D.Q ua ((tg en n n (Nat.le_refl _)).1 r (by omega)) an ck fun b r aw an=> ?_
   refine ao ?_
   refine D.r ?_
   rw[an]
   exact⟨_,rfl,.agg (.cons (.av rfl rfl) (.cons (.av rfl rfl) (.cons aN0 (.cons sr .nil)))),⟨rfl,trivial⟩,trivial⟩
end
section
attribute [local go_sem] fz ba.row List.tail_cons List.tail_nil uz uf uA ug oC sT rJ sR sS ad.ct ad.b9 ad.de pN ac.ct ac.b9 ac.de rK vl
def A6:ca→I:=fun o=> .agg [.str o.eK,.str o.peer,.ay 6 (o.args.map ad.row),.ay 6 (o.dT.map ad.row)]
theorem KS:nu A6:=fun h=>by simp only[A6,I.flat,b3,ad.b9,Bool.and_self]
theorem SF {l:List ad}{t:Nat}:kC (.own t 6 (l.map ad.row)) (.ay 6 (l.map ad.row)):= .av rfl (by simp only[I.flat,ad.b9])
theorem aM9 {l:List ad}{rows:List (List I)}(h:rows=l.map ad.row):kC (.ay 6 rows) (.ay 6 (l.map ad.row)):=by subst h; exact .av rfl (by simp only[I.flat,ad.b9])
set_option maxHeartbeats 8000000 in
theorem az3 (n:Nat) (l:List ba) (en:Int) (aH:l.length≤1000000):nl en n l≠ .out→bz Tryz.prog 90 [.ptr 0 0] (ps l en) (k7 A6 en (nl en n l)):=by
 intro ck
 refine bz.tm KS ?_
 obtain⟨R,an⟩: ∃R,R=nl en n l:=⟨_,rfl⟩
 rw[←an]at ck ⊢
 simp only[nl,nj,ox]at an
 refine bz.intro bN Tryz.func90 VY ?_
 unfold KA Rt
 simp(disch:=omega)only[go_sem,simprocAttr]
 refine ao ?_
 refine D.Q nG (OW n l en aH) an ck fun m r aw an=> ?_
 have eB:=uE aw
 clear aw
 refine ao ?_
 refine D.Q ja (iR _ r en) an ck fun _ r aw an=> ?_
 have dU:=ea aw
 clear aw
 refine ao ?_
 refine D.A (kT _ r en) (fun h=> ?_) (fun h=> ?_)
 focus
  rw[if_pos h]at an
  simp only[okB]at an
  clear h
  (repeat' first|refine D.S ?_|refine D.cN true true ?_|refine ae.nil ?_|refine aj.b6 ?_|refine D.W ?_|refine D.Z ?_|refine D.G ?_ ?_|refine D.X ‹_› ?_|refine D.eh ‹_› ?_|refine D.ei ‹_› ?_|intro h)
 rotate_left
 focus
  rw[if_neg (by rw[h]; decide)]at an
  simp only[bind_assoc]at an
  clear h
  refine bK ?_
  refine aj.oU 2 2 6 131 rfl rfl (by decide) ?_
  simp(disch:=omega)only[go_sem,simprocAttr]
  refine ao ?_
  refine D.tI (.mk 0 [] [] [] 0 []) mX ((p3 en n n (Nat.le_refl _)).2 1 r) an ck (fun x r aw an=> ?_) ?_ ?_
  rotate_left
  ·refine ao ?_
   refine D.gL ?_
   refine ao ?_
   exact aj.dead 1 0 rfl
  ·intro s ap
   simp only[List.mem_singleton]at ap
   subst ap
   exact⟨1,_,_,rfl,rfl,by simp only[kq,I.kU,fP,Bool.and_self]⟩
  have jj:=(nT n).2.1 _ _ _ _ aw
  clear aw
  rcases x with ⟨eb,ef,ed,eg,ee,ec⟩
  refine ao ?_
  refine D.gL ?_
  refine ao ?_
  obtain⟨G,hG,an⟩:=Au an
  refine aj.dd (X:=List ad×List ba×Nat) ([.mk eb ef ed eg ee ec],r,n) (fun x=>[(0,.ptr 0 0),(2,.ptr 1 0),(3,.ptr 2 0)]) (fun x=>[(0,83,fz x.2.1 en),(1,74,[.str [],.str [],.aV,.aV]),(2,74,[.str m,.str [],.own 0 6 (x.1.map ad.row),.aV])]) (fun x=>[(0,.bJ 131 6 (x.1.map ad.row).length)]) (fun x=>x.2.2≤n∧x.1.length+x.2.1.length≤1000000∧R=(ll en x.2.2 x.1 x.2.1).bind G) (fun x=>x.2.2) ⟨Nat.le_refl _,by simp only[List.length_cons,List.length_nil]; omega,an⟩ ⟨rfl,rfl,rfl,trivial⟩ ⟨rfl,rfl,by simp only[List.map_cons,List.map_nil,ad.ct]; rfl,trivial⟩ ⟨rfl,trivial⟩ ?_
  rintro⟨acc,l,k⟩ ⟨aC,hb,an⟩
  simp only at aC hb an ⊢
  rcases k with _|k
  ·exact absurd an ck
  simp only[ll]at an
  refine ao ?_
  refine D.A (kT _ l en) (fun h=> ?_) (fun h=> ?_)
  ·rw[if_pos h]at an
   simp only[bind_assoc]at an
   have kD:=eZ h
   refine ao ?_
   refine D.tI (.mk 0 [] [] [] 0 []) mX ((p3 en n k (by omega)).2 1 l.tail) an ck (fun x r aw an=> ?_) ?_ ?_
   rotate_left
   ·refine ao ?_
    refine D.gL ?_
    refine ao ?_
    exact aj.dead 1 0 rfl
   ·intro s ap
    simp only[List.mem_singleton]at ap
    subst ap
    exact⟨1,_,_,rfl,rfl,by simp only[kq,I.kU,ad.b9,fP,Bool.and_self]⟩
   have qm:=(nT k).2.1 _ _ _ _ aw
   clear aw
   rcases x with ⟨eb,ef,ed,eg,ee,ec⟩
   refine ao ?_
   refine D.gL ?_
   refine ao ?_
   refine aj.dK (acc++[.mk eb ef ed eg ee ec],r,k) ⟨by simp only; omega,by simp only[List.length_append,List.length_cons,List.length_nil]; omega,an⟩ ⟨rfl,rfl,rfl,trivial⟩ ⟨rfl,rfl,by simp only[List.map_append,List.map_cons,List.map_nil,ad.ct]; rfl,trivial⟩ ⟨by simp only[List.map_append,List.map_cons,List.map_nil,List.length_append]; rfl,trivial⟩ rfl rfl (by show k<k+1; omega)
  rw[if_neg (by rw[h]; decide)]at an
  simp only[okB]at an
  rw[hG]at an
  clear h
  refine ao ?_
  refine D.Q ja (iR _ l en) an ck fun _ r aw an=> ?_
  clear aw
  simp only[okB]at an
  (repeat' first|refine D.S ?_|refine D.cN true true ?_|refine ae.nil ?_|refine aj.b6 ?_|refine D.W ?_|refine D.Z ?_|refine D.G ?_ ?_|refine D.X ‹_› ?_|refine D.eh ‹_› ?_|refine D.ei ‹_› ?_|intro h)
 all_goals
  refine D.Q ja (iR _ _ en) an ck fun _ r aw an=> ?_
  clear aw
  refine ao ?_
  refine D.Q nG (pc r en) an ck fun p r aw an=> ?_
  clear aw
  refine ao ?_
  refine D.A (kT _ r en) (fun h=> ?_) (fun h=> ?_)
  ·rw[if_pos h]at an
   simp only[bind_assoc,okB]at an
   clear h
   refine ao ?_
   refine D.Q mX ((p3 en n n (Nat.le_refl _)).2 1 r.tail) an ck fun x r aw an=> ?_
   clear aw
   rcases x with ⟨eb,ef,ed,eg,ee,ec⟩
   refine ao ?_
   refine D.Q ja (iR _ r en) an ck fun _ r aw an=> ?_
   refine ao ?_
   refine D.r ?_
   rw[an]
   exact⟨_,rfl,.agg (.cons (.av rfl rfl) (.cons (.av rfl rfl) (.cons (by first|exact .nil|exact SF) (.cons (aM9 (by simp only[List.map_cons,List.map_nil,ad.ct])) .nil)))),⟨rfl,trivial⟩,trivial⟩
  ·rw[if_neg (by rw[h]; decide)]at an
   simp only[okB]at an
   clear h
   refine ao ?_
   refine D.Q ja (iR _ r en) an ck fun _ r aw an=> ?_
   refine ao ?_
   refine D.r ?_
   rw[an]
   exact⟨_,rfl,.agg (.cons (.av rfl rfl) (.cons (.av rfl rfl) (.cons (by first|exact .nil|exact SF) (.cons .nil .nil)))),⟨rfl,trivial⟩,trivial⟩
end
section
attribute [local go_sem] ad.ct ac.ct ad.b9 ac.b9
theorem BR {R:Nat}(an:R≤140737488355328): ∀(N:Nat) (l:List ad),ad.bB l≤N→l.length*88≤140737488355328→ad.lk R l→Pure Tryz.prog 54 [.ay 6 (l.map ad.row)] (.int .i64 (ad.iH l (l.length:Int)))
 |N,l,bW,ek,aC=>by
  refine cF bN Tryz.func54 Vx (by simp only[b3,I.flat,ad.b9,Bool.and_self]) rfl ?_
  unfold Kf QW
  simp(disch:=omega)only[go_sem,simprocAttr]
  (repeat' first|(apply ae.s rfl;(·simp(disch:=omega)only[go_sem,simprocAttr,List.length_map]<;>with_reducible rfl))|(apply aj.s true true;(·simp(disch:=omega)only[go_sem,simprocAttr,List.length_map]<;>with_reducible rfl))|apply ae.nil|(refine aj.b6 ?_)|(apply ae.eX;(·simp(disch:=omega)only[go_sem,simprocAttr,List.length_map]<;>with_reducible rfl))|(apply ae.eY;(·rfl);(·simp(disch:=omega)only[go_sem,simprocAttr,List.length_map]<;>with_reducible rfl))|(apply ae.gs;(·simp(disch:=omega)only[go_sem,simprocAttr,List.length_map]<;>with_reducible rfl))|((first|apply ae.e3|apply ae.e4|apply ae.e5);(·simp(disch:=omega)only[go_sem,simprocAttr,List.length_map]<;>with_reducible rfl);(·simp(disch:=omega)only[go_sem,simprocAttr,List.length_map]<;>with_reducible rfl);(·assumption);(·omega))|intro h)
  refine aj.dd (X:=Nat×Int) (0,(l.length:Int)) (fun x=>[(0,.ay 6 (l.map ad.row)),(3,.int .i64 x.2),(4,.int .i64 (x.1:Int))]) (fun _=>[]) (fun _=>[]) (fun x=>x.1≤l.length∧ad.iH (l.drop x.1) x.2=ad.iH l (l.length:Int)) (fun x=>l.length-x.1) ⟨Nat.zero_le _,rfl⟩ ⟨rfl,rfl,rfl,trivial⟩ trivial trivial ?_
  rintro⟨i,z⟩ ⟨ai,aB⟩
  try simp only at ai aB ⊢
  cases af:l[i]? with
  |some v=>
   have cK:=(List.getElem?_eq_some_iff.1 af).1
   have hm:=ad.lh af
   have tY:=ad.qU aC af
   obtain⟨k,o,m,t,n,a⟩:=v
   have d1:(i:Int)<((l.map ad.row).length:Int):=by rw[List.length_map]; omega
   match N,bW with
   |0,bW=>simp only[ad.bI]at hm; omega
   |N+1,bW=>
   simp only[ad.bI]at hm
   (have al:=d1;refine bQ ?_;clear al)
   refine D.P (BR an N a (by omega) (Nat.le_trans tY.2.2.2.2.2.1 an) tY.2.2.2.2.2.2) ?_
   refine ao ?_
   refine aj.dK (i+1,_) ⟨by omega,?_⟩ ⟨rfl,rfl,rfl,trivial⟩ trivial trivial rfl rfl (by show l.length-(i+1)<l.length-i; omega)
   rw[iM af]at aB
   simp only[ad.iH,ad.am]at aB
   exact aB
  |none=>
   have cM:=List.getElem?_eq_none_iff.1 af
   have e:i=l.length:=by omega
   subst e
   have d1: ¬(l.length:Int)<((l.map ad.row).length:Int):=by rw[List.length_map]; omega
   rw[List.drop_length]at aB
   simp only[ad.iH]at aB
   subst aB
   (have al:=d1;refine bQ ?_;clear al)
   exact D.rx
theorem Fz {R:Nat}(an:R≤140737488355328): ∀(N:Nat) (l:List ac),ac.bB l≤N→l.length*168≤R→ac.lk R l→Pure Tryz.prog 53 [.ay 11 (l.map ac.row)] (.int .i64 (ac.iH l (l.length:Int)))
 |N,l,bW,ek,aC=>by
  refine cF bN Tryz.func53 Vw (by simp only[b3,I.flat,ac.b9,Bool.and_self]) rfl ?_
  unfold Ke QV
  simp(disch:=omega)only[go_sem,simprocAttr]
  (repeat' first|(apply ae.s rfl;(·simp(disch:=omega)only[go_sem,simprocAttr,List.length_map]<;>with_reducible rfl))|(apply aj.s true true;(·simp(disch:=omega)only[go_sem,simprocAttr,List.length_map]<;>with_reducible rfl))|apply ae.nil|(refine aj.b6 ?_)|(apply ae.eX;(·simp(disch:=omega)only[go_sem,simprocAttr,List.length_map]<;>with_reducible rfl))|(apply ae.eY;(·rfl);(·simp(disch:=omega)only[go_sem,simprocAttr,List.length_map]<;>with_reducible rfl))|(apply ae.gs;(·simp(disch:=omega)only[go_sem,simprocAttr,List.length_map]<;>with_reducible rfl))|((first|apply ae.e3|apply ae.e4|apply ae.e5);(·simp(disch:=omega)only[go_sem,simprocAttr,List.length_map]<;>with_reducible rfl);(·simp(disch:=omega)only[go_sem,simprocAttr,List.length_map]<;>with_reducible rfl);(·assumption);(·omega))|intro h)
  refine aj.dd (X:=Nat×Int) (0,(l.length:Int)) (fun x=>[(0,.ay 11 (l.map ac.row)),(3,.int .i64 x.2),(4,.int .i64 (x.1:Int))]) (fun _=>[]) (fun _=>[]) (fun x=>x.1≤l.length∧ac.iH (l.drop x.1) x.2=ac.iH l (l.length:Int)) (fun x=>l.length-x.1) ⟨Nat.zero_le _,rfl⟩ ⟨rfl,rfl,rfl,trivial⟩ trivial trivial ?_
  rintro⟨i,z⟩ ⟨ai,aB⟩
  try simp only at ai aB ⊢
  cases af:l[i]? with
  |some v=>
   have cK:=(List.getElem?_eq_some_iff.1 af).1
   have hm:=ac.lh af
   have tY:=ac.qU aC af
   obtain⟨k,m,x,t,a,b⟩:=v
   have ar:Pure Tryz.prog 54 [.ay 6 [x.row]] (.int .i64 (IntKind.i64.wrap (1+x.am))):=BR an x.bI [x] (by simp [ad.bB]) (by show 1*88≤ _; decide) ⟨tY.2.2.1,trivial⟩
   obtain⟨bA,gv,m2,t2,mA,dZ⟩:=x
   have d1:(i:Int)<((l.map ac.row).length:Int):=by rw[List.length_map]; omega
   match N,bW with
   |0,bW=>simp only[ac.bI]at hm; omega
   |N+1,bW=>
   simp only[ac.bI]at hm
   simp(disch:=omega)only[go_sem,simprocAttr]at ar
   have ax:=Fz an N a (by omega) tY.2.2.2.2.1 tY.2.2.2.2.2.2.1
   have cw:=Fz an N b (by omega) tY.2.2.2.2.2.1 tY.2.2.2.2.2.2.2
   (have al:=d1;refine pu ?_;clear al)
   refine aj.block ?_
   refine aj.fs (anns:=[.int .i64 (IntKind.i64.wrap (1+(ad.mk bA gv m2 t2 mA dZ).am)),.int .i64 (ac.iH a (a.length:Int)),.int .i64 (ac.iH b (b.length:Int))]) ?_
   refine bK ?_
   refine D.df ar ?_
   refine bK ?_
   refine D.df ax ?_
   refine bK ?_
   refine D.df cw ?_
   refine ao ?_
   refine aj.dK (i+1,_) ⟨by omega,?_⟩ ⟨rfl,rfl,rfl,trivial⟩ trivial trivial rfl rfl (by show l.length-(i+1)<l.length-i; omega)
   rw[iM af]at aB
   simp only[ac.iH,ac.am]at aB
   exact aB
  |none=>
   have cM:=List.getElem?_eq_none_iff.1 af
   have e:i=l.length:=by omega
   subst e
   have d1: ¬(l.length:Int)<((l.map ac.row).length:Int):=by rw[List.length_map]; omega
   rw[List.drop_length]at aB
   simp only[ac.iH]at aB
   subst aB
   (have al:=d1;refine bQ ?_;clear al)
   exact D.rx
end
section
theorem fZ (h:cd):h.row=[.str h.eK,.str h.peer,.ay 1 (h.ps.map cj),.ay 11 (h.body.map ac.row)]:=by rw[cd.row,ac.l8]
theorem gJ (o:ca):o.row=[.str o.eK,.str o.peer,.ay 6 (o.args.map ad.row),.ay 6 (o.dT.map ad.row)]:=by rw[ca.row,ad.l8,ad.l8]
theorem dp (l:List cd):fP (l.map cd.row)=true:=qx (fun h=>by simp only[fZ,b3,I.flat,eN,ac.b9,Bool.and_self]) l
theorem of_flat (l:List ca):fP (l.map ca.row)=true:=qx (fun o=>by simp only[gJ,b3,I.flat,ad.b9,Bool.and_self]) l
attribute [local go_sem] ad.ct ac.ct ad.b9 ac.b9 cj eN fZ gJ dp of_flat
theorem O8 (e:ad→ad→Bool) (ii:Nat) (vt:c9 Tryz.prog ii=true) (a b:List ad) (aP:a.length≤maxLen) (h: ∀(i:Nat) x y,a[i]? =some x→b[i]? =some y→Pure Tryz.prog ii [.agg x.row,.agg y.row] (.bool (e x y))):Pure Tryz.prog 71 [.ay 6 (a.map ad.row),.ay 6 (b.map ad.row),.fn ii []] (.bool (eL e a b)):=by
 have ms:a.length≤9223372036854775807:=by unfold maxLen at aP; omega
 refine cF bN Tryz.func71 VJ (by simp only[b3,I.flat,ad.b9,Bool.and_self]) rfl ?_
 unfold AQ Rc
 simp(disch:=omega)only[go_sem,simprocAttr]
 by_cases mq:a.length=b.length
 rotate_left
 ·have d0: ¬(((a.map ad.row).length:Int)=((b.map ad.row).length:Int)):=by simp only[List.length_map]; omega
  (have al:=d0;refine bQ ?_;clear al)
  refine D.r ?_
  exact⟨_,rfl,.av (by rw[pK mq]; rfl) rfl,trivial,trivial⟩
 have d0:((a.map ad.row).length:Int)=((b.map ad.row).length:Int):=by simp only[List.length_map]; omega
 (have al:=d0;refine bQ ?_;clear al)
 refine aj.dd (X:=Nat) 0 (fun i=>[(1,.ay 6 (b.map ad.row)),(2,.fn ii []),(15,.ay 6 (a.map ad.row)),(16,.int .i64 ((b.map ad.row).length:Int)),(17,.int .i64 (i:Int))]) (fun _=>[]) (fun _=>[]) (fun i=>i≤a.length∧eL e (a.drop i) (b.drop i)=eL e a b) (fun i=>a.length-i) ⟨Nat.zero_le _,rfl⟩ ⟨rfl,rfl,rfl,rfl,rfl,trivial⟩ trivial trivial ?_
 rintro i ⟨ai,aB⟩
 try simp only at ai aB ⊢
 cases af:a[i]? with
 |some v=>
  have cK:=(List.getElem?_eq_some_iff.1 af).1
  obtain⟨u,hu⟩: ∃u,b[i]? =some u:=⟨_,List.getElem?_eq_getElem (by omega)⟩
  have hp:=h i v u af hu
  rw[oT af hu]at aB
  generalize um:e v u=aJ at hp aB
  obtain⟨k,o,m,t,n,l⟩:=v
  obtain⟨bA,gv,m2,t2,mA,dZ⟩:=u
  have d1:(i:Int)<((b.map ad.row).length:Int):=by rw[List.length_map]; omega
  simp(disch:=omega)only[go_sem,simprocAttr]at hp
  (have al:=d1;refine bQ ?_;clear al)
  refine D.V (vt) (hp) ?_
  cases aJ with
  |true=>
   refine ao ?_
   refine aj.gT (i+1) ⟨by omega,by rw[←aB]; rfl⟩ ⟨rfl,rfl,rfl,rfl,rfl,trivial⟩ trivial trivial rfl (by simp only[fY,dr,dP,dV,fO,I.cR,b2.bJ,go_sem]<;>rfl) (by show a.length-(i+1)<a.length-i; omega)
  |false=>
   refine ao ?_
   refine D.r ?_
   exact⟨_,rfl,.av (by rw[←aB]; rfl) rfl,trivial,trivial⟩
 |none=>
  have cM:=List.getElem?_eq_none_iff.1 af
  have bE:i=a.length:=by omega
  subst bE
  have d1: ¬(a.length:Int)<((b.map ad.row).length:Int):=by rw[List.length_map]; omega
  rw[pJ (Nat.le_refl _) (by omega)]at aB
  rw[←aB]
  (have al:=d1;refine bQ ?_;clear al)
  exact D.rx
theorem O6 (e:ac→ac→Bool) (ii:Nat) (vt:c9 Tryz.prog ii=true) (a b:List ac) (aP:a.length≤maxLen) (h: ∀(i:Nat) x y,a[i]? =some x→b[i]? =some y→Pure Tryz.prog ii [.agg x.row,.agg y.row] (.bool (e x y))):Pure Tryz.prog 67 [.ay 11 (a.map ac.row),.ay 11 (b.map ac.row),.fn ii []] (.bool (eL e a b)):=by
 have ms:a.length≤9223372036854775807:=by unfold maxLen at aP; omega
 refine cF bN Tryz.func67 VF (by simp only[b3,I.flat,ac.b9,Bool.and_self]) rfl ?_
 unfold Kk Q7
 simp(disch:=omega)only[go_sem,simprocAttr]
 by_cases mq:a.length=b.length
 rotate_left
 ·have d0: ¬(((a.map ac.row).length:Int)=((b.map ac.row).length:Int)):=by simp only[List.length_map]; omega
  (have al:=d0;refine bQ ?_;clear al)
  refine D.r ?_
  exact⟨_,rfl,.av (by rw[pK mq]; rfl) rfl,trivial,trivial⟩
 have d0:((a.map ac.row).length:Int)=((b.map ac.row).length:Int):=by simp only[List.length_map]; omega
 (have al:=d0;refine bQ ?_;clear al)
 refine aj.dd (X:=Nat) 0 (fun i=>[(1,.ay 11 (b.map ac.row)),(2,.fn ii []),(15,.ay 11 (a.map ac.row)),(16,.int .i64 ((b.map ac.row).length:Int)),(17,.int .i64 (i:Int))]) (fun _=>[]) (fun _=>[]) (fun i=>i≤a.length∧eL e (a.drop i) (b.drop i)=eL e a b) (fun i=>a.length-i) ⟨Nat.zero_le _,rfl⟩ ⟨rfl,rfl,rfl,rfl,rfl,trivial⟩ trivial trivial ?_
 rintro i ⟨ai,aB⟩
 try simp only at ai aB ⊢
 cases af:a[i]? with
 |some v=>
  have cK:=(List.getElem?_eq_some_iff.1 af).1
  obtain⟨u,hu⟩: ∃u,b[i]? =some u:=⟨_,List.getElem?_eq_getElem (by omega)⟩
  have hp:=h i v u af hu
  rw[oT af hu]at aB
  generalize um:e v u=aJ at hp aB
  obtain⟨k,m,⟨ae4,o6,ah9,aI9,kk,qO⟩,t,GM,GN⟩:=v
  obtain⟨bA,m2,⟨EH,l5,ai1,pj,b7,af9⟩,t2,tB,su⟩:=u
  have d1:(i:Int)<((b.map ac.row).length:Int):=by rw[List.length_map]; omega
  simp(disch:=omega)only[go_sem,simprocAttr]at hp
  (have al:=d1;refine bQ ?_;clear al)
  refine D.V (vt) (hp) ?_
  cases aJ with
  |true=>
   refine ao ?_
   refine aj.gT (i+1) ⟨by omega,by rw[←aB]; rfl⟩ ⟨rfl,rfl,rfl,rfl,rfl,trivial⟩ trivial trivial rfl (by simp only[fY,dr,dP,dV,fO,I.cR,b2.bJ,go_sem]<;>rfl) (by show a.length-(i+1)<a.length-i; omega)
  |false=>
   refine ao ?_
   refine D.r ?_
   exact⟨_,rfl,.av (by rw[←aB]; rfl) rfl,trivial,trivial⟩
 |none=>
  have cM:=List.getElem?_eq_none_iff.1 af
  have bE:i=a.length:=by omega
  subst bE
  have d1: ¬(a.length:Int)<((b.map ac.row).length:Int):=by rw[List.length_map]; omega
  rw[pJ (Nat.le_refl _) (by omega)]at aB
  rw[←aB]
  (have al:=d1;refine bQ ?_;clear al)
  exact D.rx
theorem ay0 (e:cd→cd→Bool) (ii:Nat) (vt:c9 Tryz.prog ii=true) (a b:List cd) (aP:a.length≤maxLen) (h: ∀(i:Nat) x y,a[i]? =some x→b[i]? =some y→Pure Tryz.prog ii [.agg x.row,.agg y.row] (.bool (e x y))):Pure Tryz.prog 64 [.ay 4 (a.map cd.row),.ay 4 (b.map cd.row),.fn ii []] (.bool (eL e a b)):=by
 have ms:a.length≤9223372036854775807:=by unfold maxLen at aP; omega
 refine cF bN Tryz.func64 VC (by simp only[b3,I.flat,dp,Bool.and_self]) rfl ?_
 unfold Kh Q4
 simp(disch:=omega)only[go_sem,simprocAttr]
 by_cases mq:a.length=b.length
 rotate_left
 ·have d0: ¬(((a.map cd.row).length:Int)=((b.map cd.row).length:Int)):=by simp only[List.length_map]; omega
  (have al:=d0;refine bQ ?_;clear al)
  refine D.r ?_
  exact⟨_,rfl,.av (by rw[pK mq]; rfl) rfl,trivial,trivial⟩
 have d0:((a.map cd.row).length:Int)=((b.map cd.row).length:Int):=by simp only[List.length_map]; omega
 (have al:=d0;refine bQ ?_;clear al)
 refine aj.dd (X:=Nat) 0 (fun i=>[(1,.ay 4 (b.map cd.row)),(2,.fn ii []),(15,.ay 4 (a.map cd.row)),(16,.int .i64 ((b.map cd.row).length:Int)),(17,.int .i64 (i:Int))]) (fun _=>[]) (fun _=>[]) (fun i=>i≤a.length∧eL e (a.drop i) (b.drop i)=eL e a b) (fun i=>a.length-i) ⟨Nat.zero_le _,rfl⟩ ⟨rfl,rfl,rfl,rfl,rfl,trivial⟩ trivial trivial ?_
 rintro i ⟨ai,aB⟩
 try simp only at ai aB ⊢
 cases af:a[i]? with
 |some v=>
  have cK:=(List.getElem?_eq_some_iff.1 af).1
  obtain⟨u,hu⟩: ∃u,b[i]? =some u:=⟨_,List.getElem?_eq_getElem (by omega)⟩
  have hp:=h i v u af hu
  rw[oT af hu]at aB
  generalize um:e v u=aJ at hp aB
  have _:=cK
  have d1:(i:Int)<((b.map cd.row).length:Int):=by rw[List.length_map]; omega
  simp(disch:=omega)only[go_sem,simprocAttr]at hp
  (have al:=d1;refine bQ ?_;clear al)
  refine D.V (vt) (hp) ?_
  cases aJ with
  |true=>
   refine ao ?_
   refine aj.gT (i+1) ⟨by omega,by rw[←aB]; rfl⟩ ⟨rfl,rfl,rfl,rfl,rfl,trivial⟩ trivial trivial rfl (by simp only[fY,dr,dP,dV,fO,I.cR,b2.bJ,go_sem]<;>rfl) (by show a.length-(i+1)<a.length-i; omega)
  |false=>
   refine ao ?_
   refine D.r ?_
   exact⟨_,rfl,.av (by rw[←aB]; rfl) rfl,trivial,trivial⟩
 |none=>
  have cM:=List.getElem?_eq_none_iff.1 af
  have bE:i=a.length:=by omega
  subst bE
  have d1: ¬(a.length:Int)<((b.map cd.row).length:Int):=by rw[List.length_map]; omega
  rw[pJ (Nat.le_refl _) (by omega)]at aB
  rw[←aB]
  (have al:=d1;refine bQ ?_;clear al)
  exact D.rx
theorem ay3 (e:ca→ca→Bool) (ii:Nat) (vt:c9 Tryz.prog ii=true) (a b:List ca) (aP:a.length≤maxLen) (h: ∀(i:Nat) x y,a[i]? =some x→b[i]? =some y→Pure Tryz.prog ii [.agg x.row,.agg y.row] (.bool (e x y))):Pure Tryz.prog 69 [.ay 4 (a.map ca.row),.ay 4 (b.map ca.row),.fn ii []] (.bool (eL e a b)):=by
 have ms:a.length≤9223372036854775807:=by unfold maxLen at aP; omega
 refine cF bN Tryz.func69 VH (by simp only[b3,I.flat,of_flat,Bool.and_self]) rfl ?_
 unfold Km Q9
 simp(disch:=omega)only[go_sem,simprocAttr]
 by_cases mq:a.length=b.length
 rotate_left
 ·have d0: ¬(((a.map ca.row).length:Int)=((b.map ca.row).length:Int)):=by simp only[List.length_map]; omega
  (have al:=d0;refine bQ ?_;clear al)
  refine D.r ?_
  exact⟨_,rfl,.av (by rw[pK mq]; rfl) rfl,trivial,trivial⟩
 have d0:((a.map ca.row).length:Int)=((b.map ca.row).length:Int):=by simp only[List.length_map]; omega
 (have al:=d0;refine bQ ?_;clear al)
 refine aj.dd (X:=Nat) 0 (fun i=>[(1,.ay 4 (b.map ca.row)),(2,.fn ii []),(15,.ay 4 (a.map ca.row)),(16,.int .i64 ((b.map ca.row).length:Int)),(17,.int .i64 (i:Int))]) (fun _=>[]) (fun _=>[]) (fun i=>i≤a.length∧eL e (a.drop i) (b.drop i)=eL e a b) (fun i=>a.length-i) ⟨Nat.zero_le _,rfl⟩ ⟨rfl,rfl,rfl,rfl,rfl,trivial⟩ trivial trivial ?_
 rintro i ⟨ai,aB⟩
 try simp only at ai aB ⊢
 cases af:a[i]? with
 |some v=>
  have cK:=(List.getElem?_eq_some_iff.1 af).1
  obtain⟨u,hu⟩: ∃u,b[i]? =some u:=⟨_,List.getElem?_eq_getElem (by omega)⟩
  have hp:=h i v u af hu
  rw[oT af hu]at aB
  generalize um:e v u=aJ at hp aB
  have _:=cK
  have d1:(i:Int)<((b.map ca.row).length:Int):=by rw[List.length_map]; omega
  simp(disch:=omega)only[go_sem,simprocAttr]at hp
  (have al:=d1;refine bQ ?_;clear al)
  refine D.V (vt) (hp) ?_
  cases aJ with
  |true=>
   refine ao ?_
   refine aj.gT (i+1) ⟨by omega,by rw[←aB]; rfl⟩ ⟨rfl,rfl,rfl,rfl,rfl,trivial⟩ trivial trivial rfl (by simp only[fY,dr,dP,dV,fO,I.cR,b2.bJ,go_sem]<;>rfl) (by show a.length-(i+1)<a.length-i; omega)
  |false=>
   refine ao ?_
   refine D.r ?_
   exact⟨_,rfl,.av (by rw[←aB]; rfl) rfl,trivial,trivial⟩
 |none=>
  have cM:=List.getElem?_eq_none_iff.1 af
  have bE:i=a.length:=by omega
  subst bE
  have d1: ¬(a.length:Int)<((b.map ca.row).length:Int):=by rw[List.length_map]; omega
  rw[pJ (Nat.le_refl _) (by omega)]at aB
  rw[←aB]
  (have al:=d1;refine bQ ?_;clear al)
  exact D.rx
end
section
attribute [local go_sem] ad.ct ac.ct ad.b9 ac.b9 cj eN fZ gJ dp of_flat
theorem r3 {R n b:Nat}(an:R≤140737488355328) (hb:1≤b) (h:n*b≤R):n≤maxLen:=by
 have:n*1≤n*b:=Nat.mul_le_mul_left n hb
 unfold maxLen
 omega
theorem FA {R:Nat}(an:R≤140737488355328): ∀(N:Nat) (x y:ad),x.bI≤N→x.ok R→Pure Tryz.prog 72 [.agg x.row,.agg y.row] (.bool (nF x y))
 |N,.mk k o m t n l,.mk bA gv m2 t2 mA dZ,bW,ab=>by
  have AQ:Pure Tryz.prog 71 [.ay 6 (l.map ad.row),.ay 6 (dZ.map ad.row),.fn 72 []] (.bool (lW l dZ)):=by
   rw[AY]
   refine O8 nF 72 (by kernel_rfl) l dZ (r3 an (by decide) ab.2.2.2.2.2.1) fun i u v hu af=> ?_
   have hm:=ad.lh hu
   match N,bW with
   |0,bW=>simp only[ad.bI]at bW; omega
   |N+1,bW=>simp only[ad.bI]at bW; exact FA an N u v (by omega) (ad.qU ab.2.2.2.2.2.2 hu)
  refine cF bN Tryz.func72 VK (by simp only[ad.ct,b3,I.flat,ad.b9,Bool.and_self]) rfl ?_
  unfold Ko Rd
  simp(disch:=omega)only[go_sem,simprocAttr]
  (repeat' first|refine D.S ?_|refine D.cN true true ?_|refine ae.nil ?_|refine aj.b6 ?_|refine D.W ?_|refine D.Z ?_|refine D.G ?_ ?_|refine D.X ‹_› ?_|refine D.eh ‹_› ?_|refine D.ei ‹_› ?_|intro h)
  ·refine D.P (AQ) ?_
   refine ao ?_
   refine D.r ?_
   refine⟨_,rfl,.av ?_ rfl,trivial,trivial⟩
   simp_all [nF,I.av]
  all_goals
   refine D.R ?_
   refine⟨_,rfl,.av ?_ rfl,trivial,trivial⟩
   simp_all [nF,I.av]
end
section
attribute [local go_sem] ad.ct ac.ct ad.b9 ac.b9 cj eN fZ gJ dp of_flat
theorem ay2 (a b:List (List UInt8)) (aP:a.length≤maxLen):Pure Tryz.prog 66 [.ay 1 (a.map cj),.ay 1 (b.map cj)] (.bool (decide (a=b))):=by
 have ms:a.length≤9223372036854775807:=by unfold maxLen at aP; omega
 rw[←yA]
 refine cF bN Tryz.func66 VE (by simp only[b3,I.flat,eN,Bool.and_self]) rfl ?_
 unfold Kj Q6
 simp(disch:=omega)only[go_sem,simprocAttr]
 by_cases mq:a.length=b.length
 rotate_left
 ·have d0: ¬(((a.map cj).length:Int)=((b.map cj).length:Int)):=by simp only[List.length_map]; omega
  (have al:=d0;refine bQ ?_;clear al)
  refine D.r ?_
  exact⟨_,rfl,.av (by rw[pK mq]; rfl) rfl,trivial,trivial⟩
 have d0:((a.map cj).length:Int)=((b.map cj).length:Int):=by simp only[List.length_map]; omega
 (have al:=d0;refine bQ ?_;clear al)
 refine aj.dd (X:=Nat) 0 (fun i=>[(0,.ay 1 (a.map cj)),(1,.ay 1 (b.map cj)),(12,.int .i64 ((b.map cj).length:Int)),(13,.int .i64 (i:Int))]) (fun _=>[]) (fun _=>[]) (fun i=>i≤a.length∧eL (fun x y=>decide (x=y)) (a.drop i) (b.drop i)=eL (fun x y=>decide (x=y)) a b) (fun i=>a.length-i) ⟨Nat.zero_le _,rfl⟩ ⟨rfl,rfl,rfl,rfl,trivial⟩ trivial trivial ?_
 rintro i ⟨ai,aB⟩
 try simp only at ai aB ⊢
 cases af:a[i]? with
 |some v=>
  have cK:=(List.getElem?_eq_some_iff.1 af).1
  obtain⟨u,hu⟩: ∃u,b[i]? =some u:=⟨_,List.getElem?_eq_getElem (by omega)⟩
  rw[oT af hu]at aB
  have d1:(i:Int)<((b.map cj).length:Int):=by rw[List.length_map]; omega
  have d2:(i:Int)<((a.map cj).length:Int):=by rw[List.length_map]; omega
  (repeat' first|(apply ae.s rfl;(·simp(disch:=omega)only[go_sem,simprocAttr,d1,d2]<;>with_reducible rfl))|(apply aj.s true true;(·simp(disch:=omega)only[go_sem,simprocAttr,d1,d2]<;>with_reducible rfl))|apply ae.nil|(refine aj.b6 ?_)|(apply ae.eX;(·simp(disch:=omega)only[go_sem,simprocAttr,d1,d2]<;>with_reducible rfl))|(apply ae.eY;(·rfl);(·simp(disch:=omega)only[go_sem,simprocAttr,d1,d2]<;>with_reducible rfl))|(apply ae.gs;(·simp(disch:=omega)only[go_sem,simprocAttr,d1,d2]<;>with_reducible rfl))|((first|apply ae.e3|apply ae.e4|apply ae.e5);(·simp(disch:=omega)only[go_sem,simprocAttr,d1,d2]<;>with_reducible rfl);(·simp(disch:=omega)only[go_sem,simprocAttr,d1,d2]<;>with_reducible rfl);(·assumption);(·omega))|intro h|(apply aj.cond;(·simp(disch:=omega)only[go_sem,simprocAttr,d1,d2]<;>with_reducible rfl)))
  ·refine D.r ?_
   refine⟨_,rfl,.av ?_ rfl,trivial,trivial⟩
   rw[←aB]
   have dw: ¬v=u:=by simp at h; exact h
   simp [dw,I.av]
  ·refine aj.dK (i+1) ⟨by omega,?_⟩ ⟨rfl,rfl,rfl,rfl,trivial⟩ trivial trivial rfl rfl (by show a.length-(i+1)<a.length-i; omega)
   rw[←aB]
   have qH:v=u:=by simp at h; exact h
   simp [qH]
 |none=>
  have cM:=List.getElem?_eq_none_iff.1 af
  have bE:i=a.length:=by omega
  subst bE
  have d1: ¬(a.length:Int)<((b.map cj).length:Int):=by rw[List.length_map]; omega
  have d2: ¬(a.length:Int)<((a.map cj).length:Int):=by rw[List.length_map]; omega
  rw[pJ (Nat.le_refl _) (by omega)]at aB
  rw[←aB]
  (have al:=d1;have z2:=d2;refine e8 ?_;clear al z2)
  exact D.rx
theorem av4 (a b:List (List UInt8)) (aP:a.length≤maxLen):Pure Tryz.prog 40 [.ay 1 (a.map cj),.ay 1 (b.map cj)] (.bool (decide (a=b))):=by
 have ms:a.length≤9223372036854775807:=by unfold maxLen at aP; omega
 rw[←yA]
 refine cF bN Tryz.func40 Vi (by simp only[b3,I.flat,eN,Bool.and_self]) rfl ?_
 unfold J9 QI
 simp(disch:=omega)only[go_sem,simprocAttr]
 by_cases mq:a.length=b.length
 rotate_left
 ·have d0: ¬(((a.map cj).length:Int)=((b.map cj).length:Int)):=by simp only[List.length_map]; omega
  (have al:=d0;refine bQ ?_;clear al)
  refine D.r ?_
  exact⟨_,rfl,.av (by rw[pK mq]; rfl) rfl,trivial,trivial⟩
 have d0:((a.map cj).length:Int)=((b.map cj).length:Int):=by simp only[List.length_map]; omega
 (have al:=d0;refine bQ ?_;clear al)
 refine aj.dd (X:=Nat) 0 (fun i=>[(0,.ay 1 (a.map cj)),(1,.ay 1 (b.map cj)),(5,.int .i64 (i:Int))]) (fun _=>[]) (fun _=>[]) (fun i=>i≤a.length∧eL (fun x y=>decide (x=y)) (a.drop i) (b.drop i)=eL (fun x y=>decide (x=y)) a b) (fun i=>a.length-i) ⟨Nat.zero_le _,rfl⟩ ⟨rfl,rfl,rfl,trivial⟩ trivial trivial ?_
 rintro i ⟨ai,aB⟩
 try simp only at ai aB ⊢
 cases af:a[i]? with
 |some v=>
  have cK:=(List.getElem?_eq_some_iff.1 af).1
  obtain⟨u,hu⟩: ∃u,b[i]? =some u:=⟨_,List.getElem?_eq_getElem (by omega)⟩
  rw[oT af hu]at aB
  have d1:(i:Int)<((b.map cj).length:Int):=by rw[List.length_map]; omega
  have d2:(i:Int)<((a.map cj).length:Int):=by rw[List.length_map]; omega
  (repeat' first|(apply ae.s rfl;(·simp(disch:=omega)only[go_sem,simprocAttr,d1,d2]<;>with_reducible rfl))|(apply aj.s true true;(·simp(disch:=omega)only[go_sem,simprocAttr,d1,d2]<;>with_reducible rfl))|apply ae.nil|(refine aj.b6 ?_)|(apply ae.eX;(·simp(disch:=omega)only[go_sem,simprocAttr,d1,d2]<;>with_reducible rfl))|(apply ae.eY;(·rfl);(·simp(disch:=omega)only[go_sem,simprocAttr,d1,d2]<;>with_reducible rfl))|(apply ae.gs;(·simp(disch:=omega)only[go_sem,simprocAttr,d1,d2]<;>with_reducible rfl))|((first|apply ae.e3|apply ae.e4|apply ae.e5);(·simp(disch:=omega)only[go_sem,simprocAttr,d1,d2]<;>with_reducible rfl);(·simp(disch:=omega)only[go_sem,simprocAttr,d1,d2]<;>with_reducible rfl);(·assumption);(·omega))|intro h|(apply aj.cond;(·simp(disch:=omega)only[go_sem,simprocAttr,d1,d2]<;>with_reducible rfl)))
  ·refine D.r ?_
   refine⟨_,rfl,.av ?_ rfl,trivial,trivial⟩
   rw[←aB]
   have dw: ¬v=u:=by simp at h; exact h
   simp [dw,I.av]
  ·refine aj.dK (i+1) ⟨by omega,?_⟩ ⟨rfl,rfl,rfl,trivial⟩ trivial trivial rfl rfl (by show a.length-(i+1)<a.length-i; omega)
   rw[←aB]
   have qH:v=u:=by simp at h; exact h
   simp [qH]
 |none=>
  have cM:=List.getElem?_eq_none_iff.1 af
  have bE:i=a.length:=by omega
  subst bE
  have d1: ¬(a.length:Int)<((b.map cj).length:Int):=by rw[List.length_map]; omega
  have d2: ¬(a.length:Int)<((a.map cj).length:Int):=by rw[List.length_map]; omega
  rw[pJ (Nat.le_refl _) (by omega)]at aB
  rw[←aB]
  (have al:=d1;have z2:=d2;refine e8 ?_;clear al z2)
  exact D.rx
theorem dG (l:List cb):fP (l.map cb.row)=true:=qx (fun _=>rfl) l
attribute [local go_sem] cb.row dG
theorem ax9 (a b:List cb) (aP:a.length≤maxLen):Pure Tryz.prog 63 [.ay 7 (a.map cb.row),.ay 7 (b.map cb.row)] (.bool (decide (a=b))):=by
 have ms:a.length≤9223372036854775807:=by unfold maxLen at aP; omega
 rw[←yA]
 refine cF bN Tryz.func63 VB (by simp only[b3,I.flat,dG,Bool.and_self]) rfl ?_
 unfold Kg Q3
 simp(disch:=omega)only[go_sem,simprocAttr]
 by_cases mq:a.length=b.length
 rotate_left
 ·have d0: ¬(((a.map cb.row).length:Int)=((b.map cb.row).length:Int)):=by simp only[List.length_map]; omega
  (have al:=d0;refine bQ ?_;clear al)
  refine D.r ?_
  exact⟨_,rfl,.av (by rw[pK mq]; rfl) rfl,trivial,trivial⟩
 have d0:((a.map cb.row).length:Int)=((b.map cb.row).length:Int):=by simp only[List.length_map]; omega
 (have al:=d0;refine bQ ?_;clear al)
 refine aj.dd (X:=Nat) 0 (fun i=>[(0,.ay 7 (a.map cb.row)),(1,.ay 7 (b.map cb.row)),(12,.int .i64 ((b.map cb.row).length:Int)),(13,.int .i64 (i:Int))]) (fun _=>[]) (fun _=>[]) (fun i=>i≤a.length∧eL (fun x y=>decide (x=y)) (a.drop i) (b.drop i)=eL (fun x y=>decide (x=y)) a b) (fun i=>a.length-i) ⟨Nat.zero_le _,rfl⟩ ⟨rfl,rfl,rfl,rfl,trivial⟩ trivial trivial ?_
 rintro i ⟨ai,aB⟩
 try simp only at ai aB ⊢
 cases af:a[i]? with
 |some v=>
  have cK:=(List.getElem?_eq_some_iff.1 af).1
  obtain⟨u,hu⟩: ∃u,b[i]? =some u:=⟨_,List.getElem?_eq_getElem (by omega)⟩
  rw[oT af hu]at aB
  have d1:(i:Int)<((b.map cb.row).length:Int):=by rw[List.length_map]; omega
  have d2:(i:Int)<((a.map cb.row).length:Int):=by rw[List.length_map]; omega
  (repeat' first|(apply ae.s rfl;(·simp(disch:=omega)only[go_sem,simprocAttr,d1,d2]<;>with_reducible rfl))|(apply aj.s true true;(·simp(disch:=omega)only[go_sem,simprocAttr,d1,d2]<;>with_reducible rfl))|apply ae.nil|(refine aj.b6 ?_)|(apply ae.eX;(·simp(disch:=omega)only[go_sem,simprocAttr,d1,d2]<;>with_reducible rfl))|(apply ae.eY;(·rfl);(·simp(disch:=omega)only[go_sem,simprocAttr,d1,d2]<;>with_reducible rfl))|(apply ae.gs;(·simp(disch:=omega)only[go_sem,simprocAttr,d1,d2]<;>with_reducible rfl))|((first|apply ae.e3|apply ae.e4|apply ae.e5);(·simp(disch:=omega)only[go_sem,simprocAttr,d1,d2]<;>with_reducible rfl);(·simp(disch:=omega)only[go_sem,simprocAttr,d1,d2]<;>with_reducible rfl);(·assumption);(·omega))|intro h|(apply aj.cond;(·simp(disch:=omega)only[go_sem,simprocAttr,d1,d2]<;>with_reducible rfl)))
  ·refine D.r ?_
   refine⟨_,rfl,.av ?_ rfl,trivial,trivial⟩
   rw[←aB]
   have dw: ¬v=u:=by rintro rfl; simp at h
   simp [dw,I.av]
  ·refine aj.dK (i+1) ⟨by omega,?_⟩ ⟨rfl,rfl,rfl,rfl,trivial⟩ trivial trivial rfl rfl (by show a.length-(i+1)<a.length-i; omega)
   rw[←aB]
   have qH:v=u:=by obtain⟨_,_,_,_,_,_,_⟩:=v; obtain⟨_,_,_,_,_,_,_⟩:=u; simp_all
   simp [qH]
 |none=>
  have cM:=List.getElem?_eq_none_iff.1 af
  have bE:i=a.length:=by omega
  subst bE
  have d1: ¬(a.length:Int)<((b.map cb.row).length:Int):=by rw[List.length_map]; omega
  have d2: ¬(a.length:Int)<((a.map cb.row).length:Int):=by rw[List.length_map]; omega
  rw[pJ (Nat.le_refl _) (by omega)]at aB
  rw[←aB]
  (have al:=d1;have z2:=d2;refine e8 ?_;clear al z2)
  exact D.rx
end
section
attribute [local go_sem] fz ba.row List.tail_cons List.tail_nil uz uf uA ug oC sT rJ sR sS ad.ct ad.b9 ad.de pN ac.ct ac.b9 ac.de rK vl cj eN DP A5 A6 fZ gJ dp of_flat cb.row dG
def A7:e9→I:=e9.ir
theorem XJ:nu A7:=fun x=>by simp only[A7,e9.ir,e9.cells,I.flat,b3,dG,dp,of_flat,Bool.and_self]
abbrev SS:List I:=[.str [],.str [],.str [],.aV,.aV,.aV]
set_option maxHeartbeats 8000000 in
theorem aw9 (n:Nat) (l:List ba) (en:Int) (aH:l.length≤1000000):lo en n l≠ .out→bz Tryz.prog 32 [.ptr 0 0] (ps l en) (k7 A7 en (lo en n l)):=by
 intro ck
 refine bz.tm XJ ?_
 obtain⟨R,an⟩: ∃R,R=lo en n l:=⟨_,rfl⟩
 rw[←an]at ck ⊢
 simp only[lo]at an
 refine bz.intro bN Tryz.func32 Ve ?_
 unfold rz QF
 simp(disch:=omega)only[go_sem,simprocAttr]
 refine ao ?_
 refine D.Q ja (iR _ l en) an ck fun _ r aw an=> ?_
 have eB:=ea aw
 clear aw
 refine ao ?_
 refine D.Q nG (pc r en) an ck fun a r aw an=> ?_
 have dU:=gR aw
 clear aw
 refine ao ?_
 refine D.Q ja (iR _ r en) an ck fun _ r aw an=> ?_
 have jj:=ea aw
 clear aw
 refine ao ?_
 refine D.Q nG (pc r en) an ck fun b r aw an=> ?_
 have kD:=gR aw
 clear aw
 refine ao ?_
 refine D.Q ja (iR _ r en) an ck fun _ r aw an=> ?_
 have qm:=ea aw
 clear aw
 refine ao ?_
 refine D.Q nG (pc r en) an ck fun c r aw an=> ?_
 have CZ:=gR aw
 clear aw
 refine ao ?_
 refine D.Q ja (iR _ r en) an ck fun _ r aw an=> ?_
 have C0:=ea aw
 clear aw
 refine bK ?_
 refine aj.oU 2 3 7 106 rfl rfl (by decide) ?_
 simp(disch:=omega)only[go_sem,simprocAttr]
 refine aj.oU 2 4 4 109 rfl rfl (by decide) ?_
 simp(disch:=omega)only[go_sem,simprocAttr]
 refine aj.oU 2 5 4 74 rfl rfl (by decide) ?_
 simp(disch:=omega)only[go_sem,simprocAttr]
 refine ao ?_
 obtain⟨G,hG,an⟩:=Au an
 refine aj.dd (X:=List cb×List ba×Nat) ([],r,n) (fun x=>[(0,.ptr 0 0),(2,.ptr 1 0),(3,.ptr 2 0)]) (fun x=>[(0,83,fz x.2.1 en),(1,27,SS),(2,27,[.str a,.str b,.str c,.own 0 7 (x.1.map cb.row),.own 1 4 (([]:List cd).map cd.row),.own 2 4 (([]:List ca).map ca.row)])]) (fun x=>[(0,.bJ 106 7 (x.1.map cb.row).length),(1,.bJ 109 4 (([]:List cd).map cd.row).length),(2,.bJ 74 4 (([]:List ca).map ca.row).length)]) (fun x=>x.2.2≤n∧x.1.length+x.2.1.length≤1000000∧R=(lp en n x.2.2 x.1 x.2.1).bind G) (fun x=>x.2.2) ⟨Nat.le_refl _,by simp only[List.length_nil]; omega,an⟩ ⟨rfl,rfl,rfl,trivial⟩ ⟨rfl,rfl,rfl,trivial⟩ ⟨rfl,rfl,rfl,trivial⟩ ?_
 rintro⟨ay,l,k⟩ ⟨aC,hb,an⟩
 simp only at aC hb an ⊢
 rcases k with _|k
 ·exact absurd an ck
 simp only[lp]at an
 refine ao ?_
 refine D.A (kT _ l en) (fun h=> ?_) (fun h=> ?_)
 ·rw[if_pos h]at an
  simp only[bind_assoc]at an
  have kD:=eZ h
  refine ao ?_
  refine D.tI ⟨[],0,0,0,0,0,[]⟩ KT (az1 l.tail en) an ck (fun v r aw an=> ?_) ?_ ?_
  rotate_left
  ·refine ao ?_
   refine D.gL ?_
   refine ao ?_
   exact aj.dead 3 0 rfl
  ·intro s ap
   simp only[List.mem_singleton]at ap
   subst ap
   exact⟨1,_,_,rfl,rfl,by simp only[kq,I.kU,dG,dp,of_flat,fP,Bool.and_self]⟩
  have qm:=BV aw
  clear aw
  refine ao ?_
  refine D.gL ?_
  refine ao ?_
  refine aj.dK (ay++[v],r,k) ⟨by simp only; omega,by simp only[List.length_append,List.length_cons,List.length_nil]; omega,an⟩ ⟨rfl,rfl,rfl,trivial⟩ ⟨rfl,rfl,by simp only[List.map_append,List.map_cons,List.map_nil,cb.row]; rfl,trivial⟩ ⟨by simp only[List.map_append,List.map_cons,List.map_nil,List.length_append]; rfl,rfl,rfl,trivial⟩ rfl rfl (by show k<k+1; omega)
 rw[if_neg (by rw[h]; decide)]at an
 simp only[okB]at an
 rw[hG]at an
 clear h
 refine ao ?_
 obtain⟨S4,Yq,an⟩:=Au an
 refine aj.dd (X:=List cd×List ca×List ba×Nat) ([],[],l,n) (fun x=>[(0,.ptr 0 0),(2,.ptr 1 0),(3,.ptr 2 0)]) (fun x=>[(0,83,fz x.2.2.1 en),(1,27,SS),(2,27,[.str a,.str b,.str c,.own 0 7 (ay.map cb.row),.own 1 4 (x.1.map cd.row),.own 2 4 (x.2.1.map ca.row)])]) (fun x=>[(0,.bJ 106 7 (ay.map cb.row).length),(1,.bJ 109 4 (x.1.map cd.row).length),(2,.bJ 74 4 (x.2.1.map ca.row).length)]) (fun x=>x.2.2.2≤n∧x.1.length+x.2.1.length+x.2.2.1.length≤1000000∧R=(ln en n x.2.2.2 x.1 x.2.1 x.2.2.1).bind S4) (fun x=>x.2.2.2) ⟨Nat.le_refl _,by simp only[List.length_nil]; omega,an⟩ ⟨rfl,rfl,rfl,trivial⟩ ⟨rfl,rfl,rfl,trivial⟩ ⟨rfl,rfl,rfl,trivial⟩ ?_
 rintro⟨ap,os,l,k⟩ ⟨aC,hb,an⟩
 simp only at aC hb an ⊢
 rcases k with _|k
 ·exact absurd an ck
 simp only[ln]at an
 refine ao ?_
 refine D.A (kT _ l en) (fun h=> ?_) (fun h=> ?_)
 ·rw[if_pos h]at an
  simp only[okB]at an
  rw[Yq]at an
  generalize l.tail=r at an
  cases r with
  |cons t r=>
   simp only at an
   refine ao ?_
   exact D.ri ⟨[0],[]⟩ (uI (t::r) en 3) fun _=>by rw[an]; exact rfl
  |nil=>
   simp only at an
   refine ao ?_
   refine D.r ?_
   rw[an]
   exact⟨_,rfl,.agg (.cons (.av rfl rfl) (.cons (.av rfl rfl) (.cons (.av rfl rfl) (.cons (.av rfl (by simp only[I.flat,dG])) (.cons (.av rfl (by simp only[I.flat,dp])) (.cons (.av rfl (by simp only[I.flat,of_flat])) .nil)))))),⟨rfl,trivial⟩,trivial⟩
 rw[if_neg (by rw[h]; decide)]at an
 refine ao ?_
 refine D.A (kT _ l en) (fun h=> ?_) (fun h=> ?_)
 ·rw[if_pos h]at an
  simp only[bind_assoc]at an
  have kD:=eZ h
  refine ao ?_
  refine D.tI ⟨[],[],[],[]⟩ KR (az2 n l.tail en (by omega)) an ck (fun v r aw an=> ?_) ?_ ?_
  rotate_left
  ·refine ao ?_
   refine D.gL ?_
   refine ao ?_
   exact aj.dead 3 0 rfl
  ·intro s ap
   simp only[List.mem_singleton]at ap
   subst ap
   exact⟨1,_,_,rfl,rfl,by simp only[kq,I.kU,dG,dp,of_flat,fP,Bool.and_self]⟩
  have qm:=EZ aw
  clear aw
  refine ao ?_
  refine D.gL ?_
  refine ao ?_
  refine aj.dK (ap++[v],os,r,k) ⟨by simp only; omega,by simp only[List.length_append,List.length_cons,List.length_nil]; omega,an⟩ ⟨rfl,rfl,rfl,trivial⟩ ⟨rfl,rfl,by simp only[List.map_append,List.map_cons,List.map_nil,fZ]; rfl,trivial⟩ ⟨rfl,by simp only[List.map_append,List.map_cons,List.map_nil,List.length_append]; rfl,rfl,trivial⟩ rfl rfl (by show k<k+1; omega)
 rw[if_neg (by rw[h]; decide)]at an
 simp only[bind_assoc]at an
 refine ao ?_
 refine D.Q ja (iR _ l en) an ck fun _ r aw an=> ?_
 have kD:=ea aw
 clear aw
 refine ao ?_
 refine D.tI ⟨[],[],[],[]⟩ KS (az3 n r en (by omega)) an ck (fun v r aw an=> ?_) ?_ ?_
 rotate_left
 ·refine ao ?_
  refine D.gL ?_
  refine ao ?_
  exact aj.dead 3 0 rfl
 ·intro s ap
  simp only[List.mem_singleton]at ap
  subst ap
  exact⟨1,_,_,rfl,rfl,by simp only[kq,I.kU,dG,dp,of_flat,fP,Bool.and_self]⟩
 have qm:=E0 aw
 clear aw
 refine ao ?_
 refine D.gL ?_
 refine ao ?_
 refine aj.dK (ap,os++[v],r,k) ⟨by simp only; omega,by simp only[List.length_append,List.length_cons,List.length_nil]; omega,an⟩ ⟨rfl,rfl,rfl,trivial⟩ ⟨rfl,rfl,by simp only[List.map_append,List.map_cons,List.map_nil,gJ]; rfl,trivial⟩ ⟨rfl,rfl,by simp only[List.map_append,List.map_cons,List.map_nil,List.length_append]; rfl,trivial⟩ rfl rfl (by show k<k+1; omega)
end
end Go.bc.T.N
namespace Go.bc
open Go
def fT (s x:List UInt8) (a:Nat):Prop:=a+x.length=s.length∧s.drop a=x
theorem fT.refl (s:List UInt8):fT s s 0:=⟨by simp,by simp⟩
theorem fT.get {s x:List UInt8}{c:UInt8}{a:Nat}(h:fT s (c::x) a):s[a]? =some c:=by
 have e:(s.drop a)[0]? =some c:=by rw[h.2]; rfl
 rw[List.getElem?_drop]at e
 simpa using e
theorem fT.dM {s y:List UInt8}{a:Nat}(u:List UInt8) (h:fT s (u++y) a):fT s y (a+u.length):=by
 obtain⟨J,aa⟩:=h
 rw[List.length_append]at J
 refine⟨by omega,?_⟩
 rw[←List.drop_drop,aa]
 simp
theorem fT.tail {s x:List UInt8}{c:UInt8}{a:Nat}(h:fT s (c::x) a):fT s x (a+1):=fT.dM [c] h
theorem fT.io {s y:List UInt8}{u:List UInt8}{a:Nat}(h:fT s (u++y) a):(s.take (a+u.length)).drop a=u:=by
 rw[List.drop_take,h.2,Nat.add_sub_cancel_left]
 simp
theorem fT.eq {s x:List UInt8}{a:Nat}(h:fT s x a):s.length-x.length=a:=by have:=h.1; omega
def lS (c:UInt8):Bool:=c==32||(c==9||(c==10||c==13))
def vG (x:List UInt8):List UInt8:=(x.dropWhile (·!=10)).tail
def ko:Nat→List UInt8→List UInt8
 |0,x=>x
 |n+1,[]=>[]
 |n+1,c::x=>if lS c=true then ko n x else if (c::x).take 2=[47,47] then ko n (vG (c::x)) else c::x
inductive uW where
 |ok (t:ba) (r:List UInt8)
 |err (e:Int)
def pk:List UInt8→Int→Int
 |[],v=>v
 |c::x,v=>pk x (10*v+((c.toNat:Int)-48))
def ki:List UInt8→Bool
 |[]=>false
 |c:: _=>iO c
def zl (w r:List UInt8):uW:=
 if ki r=true then .err 3
 else if 6<w.length∨1<w.length∧w.head?=some 48 then .err 2
 else .ok ⟨2,[],pk w 0,0⟩ r
def vL (x:List UInt8):uW:=zl (x.takeWhile iY) (x.dropWhile iY)
def vJ (x:List UInt8):uW:=
 if 16<(x.takeWhile iO).length then .err 6 else .ok ⟨1,x.takeWhile iO,0,0⟩ (x.dropWhile iO)
def jy:List UInt8→List UInt8→uW
 | _,[]=> .err 3
 |b,c::x=>if c.toNat=34 then (if 40<b.length then .err 6 else .ok ⟨3,b,0,0⟩ x)
  else if c.toNat=92 then match x with
   |[]=> .err 3
   |d::y=>if d.toNat=34∨d.toNat=92 then jy (b++[d]) y else .err 3
  else if c.toNat<32∨126<c.toNat then .err 3 else jy (b++[c]) x
def gO:List (List UInt8):=[[45,62],[46,46],[60,61],[62,61],[61,61],[33,61],[38,38],[124,124]]
def qS:List UInt8:=[40,41,123,125,44,59,58,46,43,45,42,47,37,60,62,61,33]
def ux (x:List UInt8):uW:=
 if x.take 2∈gO then .ok ⟨4,x.take 2,0,0⟩ (x.drop 2)
 else match x with
  |[]=> .err 3
  |c::y=>if c∈qS then .ok ⟨4,[c],0,0⟩ y else .err 3
def l9:List UInt8→uW
 |[]=> .err 3
 |c::x=>if l1 c=true then vJ (c::x) else if iY c=true then vL (c::x) else if c.toNat=34 then jy [] x else ux (c::x)
inductive Ai where
 |ok (l:List ba)
 |err (p e:Int)
def qQ (N:Nat):Nat→List ba→List UInt8→Ai
 |0,acc,_=> .ok acc
 |n+1,acc,x=>match ko (x.length+1) x with
  |[]=> .ok acc
  |c::y=>match l9 (c::y) with
   | .err e=> .err ((N-(c::y).length:Nat):Int) e
   | .ok t r=>qQ N n (acc++[{t with vj:=((N-(c::y).length:Nat):Int)}]) r
def pV (s:List UInt8):Ai:=if 8000<s.length then .err 8000 6 else qQ s.length (s.length+1) [] s
def lexB (N n:Nat) (acc:List ba):List UInt8→Ai
 |[]=> .ok acc
 |c::y=>match l9 (c::y) with
  | .err e=> .err ((N-(c::y).length:Nat):Int) e
  | .ok t r=>qQ N n (acc++[{t with vj:=((N-(c::y).length:Nat):Int)}]) r
theorem uw (N n:Nat) (acc:List ba) (x:List UInt8):qQ N (n+1) acc x=lexB N n acc (ko (x.length+1) x):=by
 rw[qQ]
 cases ko (x.length+1) x<;>rfl
theorem Gl: ∀(n:Nat) (b x:List UInt8) (t:ba) (r:List UInt8),x.length≤n→jy b x= .ok t r→∃u,x=u++r
 |n,b,[],t,r,_,h=>by simp [jy]at h
 |0,b,c::x,t,r,a6,h=>by simp at a6
 |n+1,b,[c],t,r,a6,h=>by
  simp only[jy]at h
  split at h
  ·split at h
   ·cases h
   ·cases h; exact⟨[c],rfl⟩
  split at h
  ·cases h
  split at h<;>cases h
 |n+1,b,c::d::y,t,r,a6,h=>by
  rw[jy]at h
  simp only[List.length_cons]at a6
  split at h
  ·split at h
   ·cases h
   ·cases h; exact⟨[c],rfl⟩
  split at h
  ·split at h
   ·obtain⟨u,hu⟩:=Gl n _ _ _ _ (by omega) h
    exact⟨c::d::u,by rw[hu]; rfl⟩
   ·cases h
  split at h
  ·cases h
  ·obtain⟨u,hu⟩:=Gl n _ _ _ _ (by simp only[List.length_cons]; omega) h
   exact⟨c::u,by rw[hu]; rfl⟩
theorem ag8 {c:UInt8}(h:l1 c=true):iO c=true:=by
 simp only[l1]at h
 simp only[iO,uu,h,Bool.true_or]
theorem Sb {c:UInt8}{y:List UInt8}{t:ba}{r:List UInt8}(h:l9 (c::y)= .ok t r): ∃d u,c::y=(d::u)++r:=by
 simp only[l9]at h
 split at h
 ·rename_i aH
  unfold vJ at h
  split at h
  ·cases h
  ·cases h
   refine⟨c,y.takeWhile iO,?_⟩
   have:=List.takeWhile_append_dropWhile (p:=iO) (l:=c::y)
   rw[List.takeWhile_cons,if_pos (ag8 aH)]at this
   exact this.symm
 split at h
 ·rename_i bw
  unfold vL zl at h
  split at h
  ·cases h
  split at h
  ·cases h
  ·cases h
   refine⟨c,y.takeWhile iY,?_⟩
   have:=List.takeWhile_append_dropWhile (p:=iY) (l:=c::y)
   rw[List.takeWhile_cons,if_pos bw]at this
   exact this.symm
 split at h
 ·obtain⟨u,hu⟩:=Gl _ _ _ _ _ (Nat.le_refl _) h
  exact⟨c,u,by rw[hu]; rfl⟩
 ·unfold ux at h
  split at h
  ·cases h
   cases y with
   |nil=>rename_i hm; simp [gO]at hm
   |cons d y=>exact⟨c,[d],rfl⟩
  ·simp only at h
   split at h
   ·cases h
    exact⟨c,[],rfl⟩
   ·cases h
theorem Gk: ∀(n:Nat) (b x:List UInt8) (e:Int),x.length≤n→jy b x= .err e→e≠0
 |n,b,[],e,_,h=>by simp only[jy]at h; cases h; decide
 |0,b,c::x,e,a6,h=>by simp at a6
 |n+1,b,[c],e,a6,h=>by
  simp only[jy]at h
  split at h
  ·split at h
   ·cases h; decide
   ·cases h
  split at h
  ·cases h; decide
  split at h<;>(cases h; decide)
 |n+1,b,c::d::y,e,a6,h=>by
  rw[jy]at h
  simp only[List.length_cons]at a6
  split at h
  ·split at h
   ·cases h; decide
   ·cases h
  split at h
  ·split at h
   ·exact Gk n _ _ _ (by omega) h
   ·cases h; decide
  split at h
  ·cases h; decide
  ·exact Gk n _ _ _ (by simp only[List.length_cons]; omega) h
theorem Sa {c:UInt8}{y:List UInt8}{e:Int}(h:l9 (c::y)= .err e):e≠0:=by
 simp only[l9]at h
 split at h
 ·unfold vJ at h
  split at h<;>cases h
  decide
 split at h
 ·unfold vL zl at h
  split at h
  ·cases h; decide
  split at h<;>cases h
  decide
 split at h
 ·exact Gk _ _ _ _ (Nat.le_refl _) h
 ·unfold ux at h
  split at h
  ·cases h
  ·simp only at h
   split at h<;>cases h
   decide
theorem ah2 (x:List UInt8): ∃u,x=u++vG x:=by
 unfold vG
 have:=List.takeWhile_append_dropWhile (p:=(·!=10)) (l:=x)
 cases h:x.dropWhile (·!=10) with
 |nil=>rw[h]at this; exact⟨x,by simp⟩
 |cons c y=>
  rw[h]at this
  exact⟨x.takeWhile (·!=10)++[c],by rw[List.append_assoc]; exact this.symm⟩
theorem Cp: ∀(n:Nat) (x:List UInt8),∃u,x=u++ko n x
 |0,x=>⟨[],rfl⟩
 |n+1,[]=>⟨[],rfl⟩
 |n+1,c::x=>by
  simp only[ko]
  split
  ·obtain⟨u,hu⟩:=Cp n x
   exact⟨c::u,by rw[List.cons_append,←hu]⟩
  split
  ·obtain⟨u,hu⟩:=ah2 (c::x)
   obtain⟨v,af⟩:=Cp n (vG (c::x))
   exact⟨u++v,by rw[List.append_assoc,←af,←hu]⟩
  ·exact⟨[],rfl⟩
theorem fT.of {s x y u:List UInt8}{a:Nat}(h:fT s x a) (e:x=u++y): ∃p,s.length-y.length=p∧fT s y p∧a+u.length=p:=by
 subst e
 have:=fT.dM u h
 exact⟨_,this.eq,this,rfl⟩
def BH:Ai→I
 | .ok l=> .di [.ay 4 (l.map ba.row),.int .i64 0,.int .i64 0]
 | .err p e=> .di [.ay 4 [],.int .i64 p,.int .i64 e]
end Go.bc
namespace Go.bc.T.N
open Go Go.bc Go.Proofs Go.RowKit
set_option maxRecDepth 100000
attribute [local irreducible] Go.bc.aj Go.bc.ae Go.bc.bz
section
abbrev pf (s:List UInt8) (a:Nat):List I:=[.str s,.int .i64 (a:Int)]
abbrev pe (s:List UInt8) (a:Nat):a1:=a1.of 1 0 [(0,149,pf s a)] []
attribute [local go_sem] pe pf
theorem zi (c:UInt8):(c.toNat:Int)<256:=by have:=c.toNat_lt; omega
theorem aw0 (s t:List UInt8) (ap:s.length≤9223372036854775807) (aO:t.length≤9223372036854775807):Pure Tryz.prog 187 [.str s,.str t] (.bool (decide (t.length≤s.length∧s.take t.length=t))):=by
 refine cF bN Tryz.func187 U1 rfl rfl ?_
 unfold JN Qs
 simp(disch:=omega)only[go_sem,simprocAttr]
 by_cases h:t.length≤s.length
 ·have d:(t.length:Int)≤(s.length:Int):=by omega
  (have al:=d;refine bQ ?_;clear al)
  (apply ae.aG3 (t.length);(·simp(disch:=omega)only[go_sem,simprocAttr]<;>with_reducible rfl);(·simp(disch:=omega)only[go_sem,simprocAttr]<;>with_reducible rfl);(·omega);(·(try simp only[List.length_map]);omega))
  refine ao ?_
  refine D.r ?_
  refine⟨_,rfl,.av ?_ rfl,trivial,trivial⟩
  simp [h,I.av]
 ·have d: ¬(t.length:Int)≤(s.length:Int):=by omega
  (have al:=d;refine bQ ?_;clear al)
  refine D.r ?_
  refine⟨_,rfl,.av ?_ rfl,trivial,trivial⟩
  simp [h,I.av]
theorem OS (s t:List UInt8) (ap:s.length≤9223372036854775807) (aO:t.length≤9223372036854775807):Pure Tryz.prog 145 [.str s,.str t] (.bool (decide (t.length≤s.length∧s.take t.length=t))):=by
 refine cF bN Tryz.func145 Uu rfl rfl ?_
 unfold wM PV
 simp(disch:=omega)only[go_sem,simprocAttr]
 refine ao ?_
 refine D.P (aw0 s t ap aO) ?_
 refine ao ?_
 exact D.rx
theorem OU (f:FuncId) (p:UInt8→Bool) (aW:c9 Tryz.prog f=true) (hp: ∀c:UInt8,Pure Tryz.prog f [.int .u8 (c.toNat:Int)] (.bool (p c))) (s x:List UInt8) (a:Nat) (ap:s.length≤1000000) (ab:fT s x a):
  bz Tryz.prog 148 [.ptr 0 0,.fn f []] (pe s a) (fJ (.str (x.takeWhile p)) [(0,149,pf s (a+(x.takeWhile p).length))] []):=by
 refine bz.intro bN Tryz.func148 Uv ?_
 unfold Jm PW
 simp(disch:=omega)only[go_sem,simprocAttr]
 refine ao ?_
 refine aj.dd (X:=List UInt8×List UInt8×Nat) ([],x,a) (fun y=>[(0,.ptr 0 0),(1,.fn f []),(5,.int .i64 (a:Int))]) (fun y=>[(0,149,pf s y.2.2)]) (fun _=>[]) (fun y=>x=y.1++y.2.1∧(∀c∈y.1,p c=true)∧y.2.2=a+y.1.length) (fun y=>y.2.1.length) ⟨rfl,by simp,rfl⟩ ⟨rfl,rfl,rfl,trivial⟩ ⟨rfl,trivial⟩ trivial ?_
 rintro⟨u,y,b⟩ ⟨J,aa,bL⟩
 simp only at J aa bL ⊢
 have au:x.takeWhile p=u++y.takeWhile p:=by
  rw[J,List.takeWhile_append_of_pos aa]
 have pS:=(J▸ab:fT s (u++y) a).io
 rw[←bL]at pS
 have aZ:fT s y b:=bL▸fT.dM u (J▸ab)
 have oY:=aZ.1
 cases y with
 |nil=>
  simp only[List.length_nil]at oY
  have d1: ¬(b:Int)<(s.length:Int):=by omega
  refine D.cN true true ?_
  refine D.cN true true ?_
  refine aj.fs (anns:=[.undef]) ?_
  (have al:=d1;refine bQ ?_;clear al)
  (apply ae.uM (a) (b);(·simp(disch:=omega)only[go_sem,simprocAttr]<;>with_reducible rfl);(·simp(disch:=omega)only[go_sem,simprocAttr]<;>with_reducible rfl);(·simp(disch:=omega)only[go_sem,simprocAttr]<;>with_reducible rfl);(·omega);(·omega);(·omega);(·(try simp only[List.length_map]);omega))
  refine ao ?_
  refine D.r ?_
  rw[au,pS,bL]
  simp only[List.takeWhile_nil,List.append_nil]
  exact⟨rfl,⟨rfl,trivial⟩,trivial⟩
 |cons c y=>
  have af:=aZ.get
  have ah:=zi c
  simp only[List.length_cons]at oY
  have d1:(b:Int)<(s.length:Int):=by omega
  refine D.cN true true ?_
  refine D.cN true true ?_
  refine aj.fs (anns:=[.bool (p c)]) ?_
  (have al:=d1;refine bQ ?_;clear al)
  refine D.S6 (aW) (hp c) ?_
  cases L3:p c
  ·(repeat' first|refine D.S ?_|refine D.cN true true ?_|refine ae.nil ?_|refine aj.b6 ?_|refine D.W ?_|refine D.Z ?_|refine D.G ?_ ?_|refine D.X ‹_› ?_|refine D.eh ‹_› ?_|refine D.ei ‹_› ?_|intro h|refine D.C ?_ ?_)
   (apply ae.uM (a) (b);(·simp(disch:=omega)only[go_sem,simprocAttr]<;>with_reducible rfl);(·simp(disch:=omega)only[go_sem,simprocAttr]<;>with_reducible rfl);(·simp(disch:=omega)only[go_sem,simprocAttr]<;>with_reducible rfl);(·omega);(·omega);(·omega);(·(try simp only[List.length_map]);omega))
   refine ao ?_
   refine D.r ?_
   rw[au,pS,bL]
   simp only[List.takeWhile_cons,L3,Bool.false_eq_true,if_false,List.append_nil]
   exact⟨rfl,⟨rfl,trivial⟩,trivial⟩
  ·(repeat' first|refine D.S ?_|refine D.cN true true ?_|refine ae.nil ?_|refine aj.b6 ?_|refine D.W ?_|refine D.Z ?_|refine D.G ?_ ?_|refine D.X ‹_› ?_|refine D.eh ‹_› ?_|refine D.ei ‹_› ?_|intro h|refine D.C ?_ ?_)
   refine aj.dK (u++[c],y,b+1) ⟨by rw[J]; simp,fun d bw=> ?_,by rw[bL]; simp only[List.length_append,List.length_cons,List.length_nil]; omega⟩ ⟨rfl,rfl,rfl,trivial⟩ ⟨by simp only[Int.natCast_add]; rfl,trivial⟩ trivial rfl rfl (by show y.length<y.length+1; omega)
   rcases List.mem_append.1 bw with bw|bw
   ·exact aa d bw
   ·rw[List.mem_singleton.1 bw]; exact L3
end
section
attribute [local go_sem] pe pf ba.row
abbrev z4:List I:=[.int .i64 0,.str [],.int .i64 0,.int .i64 0]
def tH (s:List UInt8):uW→Out→a1→Prop
 | .ok t r=>fJ (.di [.agg t.row,.int .i64 0]) [(0,149,pf s (s.length-r.length))] []
 | .err e=>fJ (.di [.agg z4,.int .i64 e]) [] []
theorem Ah {s r:List UInt8}{t:ba}{b:Nat}{o:Out}{c:a1}(aO:s.length-r.length=b) (h:fJ (.di [.agg t.row,.int .i64 0]) [(0,149,pf s b)] [] o c):tH s (.ok t r) o c:=by subst aO; exact h
theorem Wm:c9 Tryz.prog 149=true:=by kernel_rfl
theorem Wp:c9 Tryz.prog 82=true:=by kernel_rfl
theorem R8 (p:UInt8→Bool) (x:List UInt8):(x.takeWhile p).length+(x.dropWhile p).length=x.length:=by
 have:=congrArg List.length (List.takeWhile_append_dropWhile (p:=p) (l:=x))
 rw[List.length_append]at this
 exact this
theorem fT.IG {s x:List UInt8}{a:Nat}(p:UInt8→Bool) (h:fT s x a):fT s (x.dropWhile p) (a+(x.takeWhile p).length):=
 fT.dM _ (by rw[List.takeWhile_append_dropWhile]; exact h)
theorem ay8 (s x:List UInt8) (a:Nat) (ap:s.length≤1000000) (ab:fT s x a):bz Tryz.prog 81 [.ptr 0 0] (pe s a) (tH s (vJ x)):=by
 have e:=OU 149 iO Wm (fun c=>Fu _) s x a ap ab
 have aO:=(fT.IG iO ab).eq
 have aH:=ab.1
 have bw:=R8 iO x
 obtain⟨R,an⟩: ∃R,R=vJ x:=⟨_,rfl⟩
 rw[←an]
 unfold vJ at an
 generalize x.takeWhile iO=w at*
 generalize x.dropWhile iO=r at*
 rw[←aO]at e
 refine bz.intro bN Tryz.func81 VP ?_
 unfold Ks Ri
 simp(disch:=omega)only[go_sem,simprocAttr]
 refine ao ?_
 refine D.F ⟨[0],[]⟩ (e) ?_
 (repeat' first|refine D.S ?_|refine D.cN true true ?_|refine ae.nil ?_|refine aj.b6 ?_|refine D.W ?_|refine D.Z ?_|refine D.G ?_ ?_|refine D.X ‹_› ?_|refine D.eh ‹_› ?_|refine D.ei ‹_› ?_|intro h|refine D.C ?_ ?_)
 ·rw[if_pos (by simp at h; omega)]at an
  refine D.r ?_
  rw[an]
  exact⟨rfl,trivial,trivial⟩
 ·rw[if_neg (by simp at h; omega)]at an
  refine D.r ?_
  rw[an]
  exact⟨rfl,⟨rfl,trivial⟩,trivial⟩
theorem W5 {x:List UInt8}{i:Nat}{c:UInt8}(h:(x.takeWhile iY)[i]? =some c):48≤(c.toNat:Int)∧(c.toNat:Int)≤57:=by
 have J:c∈x.takeWhile iY:=List.mem_of_getElem? h
 have aa: ∀(l:List UInt8),c∈l.takeWhile iY→iY c=true:=by
  intro l
  induction l with
  |nil=>simp
  |cons d l cv=>
   rw[List.takeWhile_cons]
   split
   ·rename_i bw
    intro h
    rcases List.mem_cons.1 h with rfl|h
    ·exact bw
    ·exact cv h
   ·simp
 simpa [iY,vc] using aa x J
theorem ay9 (s x:List UInt8) (a:Nat) (ap:s.length≤1000000) (ab:fT s x a):bz Tryz.prog 83 [.ptr 0 0] (pe s a) (tH s (vL x)):=by
 have e:=OU 82 iY Wp (fun c=>FC _) s x a ap ab
 have ag:=fT.IG iY ab
 have aO:=ag.eq
 have aH:=ab.1
 have bw:=R8 iY x
 have yR:=fun (i:Nat) (c:UInt8)=> @W5 x i c
 obtain⟨R,an⟩: ∃R,R=vL x:=⟨_,rfl⟩
 rw[←an]
 simp only[vL]at an
 generalize x.takeWhile iY=w at*
 generalize x.dropWhile iY=r at*
 have J:=ag.1
 obtain⟨b,hb⟩: ∃b,b=a+w.length:=⟨_,rfl⟩
 rw[←hb]at e ag aO J
 refine bz.intro bN Tryz.func83 VR ?_
 unfold Ku Rk
 simp(disch:=omega)only[go_sem,simprocAttr]
 refine ao ?_
 refine D.F ⟨[0],[]⟩ (e) ?_
 refine bK ?_
 refine D.cN true true ?_
 refine D.cN true true ?_
 clear e ab hb bw aH
 unfold zl at an
 rcases r with _|⟨c,y⟩
 focus
  simp only[List.length_nil]at J
  have d1: ¬(b:Int)<(s.length:Int):=by omega
  refine aj.fs (anns:=[.undef]) ?_
  (have al:=d1;refine rj ?_;clear al)
  refine D.cN true true ?_
  rw[if_neg (by simp [ki])]at an
  clear ag d1 J
 rotate_left
 focus
  have af:=ag.get
  have ah:=zi c
  simp only[List.length_cons]at J
  have d1:(b:Int)<(s.length:Int):=by omega
  have tX:Pure Tryz.prog 149 [.int .u8 (c.toNat:Int)] (.bool (iO c)):=Fu _
  cases ai:iO c
  rotate_left
  ·rw[ai]at tX
   rw[if_pos (show ki (c::y)=true from ai)]at an
   refine aj.fs (anns:=[.bool true]) ?_
   (have al:=d1;refine bQ ?_;clear al)
   refine D.df (tX) ?_
   refine ao ?_
   refine D.r ?_
   rw[an]
   exact⟨rfl,trivial,trivial⟩
  rw[ai]at tX
  rw[if_neg (by rw[show ki (c::y)=false from ai]; decide)]at an
  refine aj.fs (anns:=[.bool false]) ?_
  (have al:=d1;refine rj ?_;clear al)
  refine D.df (tX) ?_
  refine bK ?_
  refine D.cN true true ?_
  clear ag d1 J tX af ah ai
 all_goals
  by_cases cq:6<w.length
  ·rw[if_pos (.inl cq)]at an
   have d6:(6:Int)<(w.length:Int):=by omega
   (have al:=d6;refine bQ ?_;clear al)
   refine D.r ?_
   rw[an]
   exact⟨rfl,trivial,trivial⟩
  have d6: ¬(6:Int)<(w.length:Int):=by omega
  by_cases aw:1<w.length∧w.head?=some 48
  ·rw[if_pos (.inr aw)]at an
   have d2:(1:Int)<(w.length:Int):=by omega
   have af:w[0]? =some 48:=by rw[←List.head?_eq_getElem?]; exact aw.2
   have wN:((48:UInt8).toNat:Int)=48:=rfl
   (have al:=d6;have z2:=d2;have z3:=wN;refine ji ?_;clear al z2 z3)
   refine D.r ?_
   rw[an]
   exact⟨rfl,trivial,trivial⟩
  rw[if_neg (fun bh=>bh.elim cq aw)]at an
  by_cases aa:1<w.length
  focus
   have d2:(1:Int)<(w.length:Int):=by omega
   obtain⟨mT,af⟩: ∃mT,w[0]? =some mT:=⟨_,List.getElem?_eq_getElem (by omega)⟩
   have d3: ¬(mT.toNat:Int)=48:=fun e=>aw ⟨aa,by
    rw[List.head?_eq_getElem?,af]
    congr 1
    apply UInt8.toNat_inj.1
    have:(48:UInt8).toNat=48:=rfl
    omega⟩
   (repeat' first|(apply ae.s rfl;(·simp(disch:=omega)only[go_sem,simprocAttr,d6,d2,d3]<;>with_reducible rfl))|(apply aj.s true true;(·simp(disch:=omega)only[go_sem,simprocAttr,d6,d2,d3]<;>with_reducible rfl))|apply ae.nil|(refine aj.b6 ?_)|(apply ae.eX;(·simp(disch:=omega)only[go_sem,simprocAttr,d6,d2,d3]<;>with_reducible rfl))|(apply ae.eY;(·rfl);(·simp(disch:=omega)only[go_sem,simprocAttr,d6,d2,d3]<;>with_reducible rfl))|(apply ae.gs;(·simp(disch:=omega)only[go_sem,simprocAttr,d6,d2,d3]<;>with_reducible rfl))|((first|apply ae.e3|apply ae.e4|apply ae.e5);(·simp(disch:=omega)only[go_sem,simprocAttr,d6,d2,d3]<;>with_reducible rfl);(·simp(disch:=omega)only[go_sem,simprocAttr,d6,d2,d3]<;>with_reducible rfl);(·assumption);(·omega))|intro h)
  rotate_left
  focus
   have d2: ¬(1:Int)<(w.length:Int):=by omega
   (repeat' first|(apply ae.s rfl;(·simp(disch:=omega)only[go_sem,simprocAttr,d6,d2]<;>with_reducible rfl))|(apply aj.s true true;(·simp(disch:=omega)only[go_sem,simprocAttr,d6,d2]<;>with_reducible rfl))|apply ae.nil|(refine aj.b6 ?_)|(apply ae.eX;(·simp(disch:=omega)only[go_sem,simprocAttr,d6,d2]<;>with_reducible rfl))|(apply ae.eY;(·rfl);(·simp(disch:=omega)only[go_sem,simprocAttr,d6,d2]<;>with_reducible rfl))|(apply ae.gs;(·simp(disch:=omega)only[go_sem,simprocAttr,d6,d2]<;>with_reducible rfl))|((first|apply ae.e3|apply ae.e4|apply ae.e5);(·simp(disch:=omega)only[go_sem,simprocAttr,d6,d2]<;>with_reducible rfl);(·simp(disch:=omega)only[go_sem,simprocAttr,d6,d2]<;>with_reducible rfl);(·assumption);(·omega))|intro h)
  all_goals
   refine aj.dd (X:=Nat×Int) (0,0) (fun y=>[(2,.ptr 1 0),(3,.int .i64 0),(4,.str w),(5,.ptr 2 0),(48,.int .i64 (w.length:Int)),(49,.int .i64 (y.1:Int))]) (fun y=>[(0,149,[.str s,.int .i64 (b:Int)]),(1,152,z4),(2,152,[.int .i64 2,.str [],.int .i64 y.2,.int .i64 0])]) (fun _=>[]) (fun y=>y.1≤w.length∧0≤y.2∧y.2<10^y.1∧pk (w.drop y.1) y.2=pk w 0) (fun y=>w.length-y.1) ⟨Nat.zero_le _,Int.le_refl _,by decide,rfl⟩ ⟨rfl,rfl,rfl,rfl,rfl,rfl,trivial⟩ ⟨rfl,rfl,rfl,trivial⟩ trivial ?_
   rintro⟨i,v⟩ ⟨ai,r0,By,aB⟩
   simp only at ai r0 By aB ⊢
   cases af:w[i]? with
   |some c=>
    have cK:=(List.getElem?_eq_some_iff.1 af).1
    have d4:(i:Int)<(w.length:Int):=by omega
    have aP8:=yR i c af
    rw[iM af]at aB
    simp only[pk]at aB
    have hp:(10:Int)^i≤100000:=by
     have:(10:Int)^i≤10^5:=by exact_mod_cast Nat.pow_le_pow_right (by decide) (show i≤5 by omega)
     simpa using this
    have bG:(10:Int)^(i+1)=10*10^i:=by rw[Int.pow_succ,Int.mul_comm]
    generalize (10:Int)^i=P at hp bG By
    (have al:=d4;refine bQ ?_;clear al)
    refine aj.dK (i+1,10*v+((c.toNat:Int)-48)) ⟨by simp only; omega,by simp only; omega,by simp only; rw[bG]; omega,aB⟩ ⟨rfl,rfl,rfl,rfl,rfl,by simp only[Int.natCast_add]; rfl,trivial⟩ ⟨rfl,rfl,rfl,trivial⟩ trivial rfl rfl (by show w.length-(i+1)<w.length-i; omega)
   |none=>
    have cM:=List.getElem?_eq_none_iff.1 af
    have d4: ¬(i:Int)<(w.length:Int):=by omega
    rw[List.drop_eq_nil_of_le cM]at aB
    simp only[pk]at aB
    (have al:=d4;refine bQ ?_;clear al)
    refine D.r ?_
    rw[an,←aB]
    exact Ah aO ⟨rfl,⟨rfl,trivial⟩,trivial⟩
theorem aR6 {x:List UInt8}(h:x.take 2∉gO){m:List UInt8}(hm:m∈gO): ¬(m.length≤x.length∧x.take m.length=m):=by
 rintro⟨_,aa⟩
 have e:m.length=2:=by
  simp only[gO,List.mem_cons,List.not_mem_nil,or_false]at hm
  rcases hm with rfl|rfl|rfl|rfl|rfl|rfl|rfl|rfl<;>rfl
 rw[e]at aa
 exact h (aa▸hm)
theorem ab1 {x m:List UInt8}(hm:m∈gO):(m.length≤x.length∧x.take m.length=m)↔x.take 2=m:=by
 have e:m.length=2:=by
  simp only[gO,List.mem_cons,List.not_mem_nil,or_false]at hm
  rcases hm with rfl|rfl|rfl|rfl|rfl|rfl|rfl|rfl<;>rfl
 rw[e]
 refine⟨fun h=>h.2,fun h=>⟨?_,h⟩⟩
 have:=congrArg List.length h
 rw[List.length_take,e]at this
 omega
end
section
attribute [local go_sem] pe pf ba.row
theorem aa7 (c:UInt8):decide (0≤Lib.indexByte qS c)=decide (c∈qS):=by
 have key: ∀n:Fin 256,decide (0≤Lib.indexByte qS (UInt8.ofNat n.val))=decide (UInt8.ofNat n.val∈qS):=by decide+kernel
 have:=key ⟨c.toNat,c.toNat_lt⟩
 simpa using this
theorem ay7 (s:List UInt8) (c:UInt8) (y:List UInt8) (a:Nat) (ap:s.length≤1000000) (ab:fT s (c::y) a):bz Tryz.prog 79 [.ptr 0 0] (pe s a) (tH s (ux (c::y))):=by
 have qL:=ab.2
 have aH:=ab.1
 have pS:=(fT.io (u:=[c]) ab)
 have Jl:Pure Tryz.prog 147 [.str [40,41,123,125,44,59,58,46,43,45,42,47,37,60,62,61,33],.str [c]] (.bool (decide (c∈qS))):=by
  have:=al3 qS c
  rw[aa7]at this
  exact this
 obtain⟨R,an⟩: ∃R,R=ux (c::y):=⟨_,rfl⟩
 rw[←an]
 unfold ux at an
 obtain⟨x,BB⟩: ∃x,x=c::y:=⟨_,rfl⟩
 rw[←BB]at qL aH an
 have Z5:x.length≤9223372036854775807:=by omega
 have aR2:1≤x.length:=by rw[BB]; simp
 refine bz.intro bN Tryz.func79 VN ?_
 unfold Kq Rg
 simp(disch:=omega)only[go_sem,simprocAttr]
 refine ao ?_
 refine aj.dd (X:=Nat) 0 (fun i=>[(0,.ptr 0 0),(2,.ptr 1 0),(3,.int .i64 0),(7,.agg [.str [45,62],.str [46,46],.str [60,61],.str [62,61],.str [61,61],.str [33,61],.str [38,38],.str [124,124]]),(8,.int .i64 (i:Int))]) (fun _=>[(0,149,[.str s,.int .i64 (a:Int)]),(1,152,z4)]) (fun _=>[]) (fun i=>i≤8∧∀m∈gO.take i,¬x.take 2=m) (fun i=>8-i) ⟨Nat.zero_le _,by simp⟩ ⟨rfl,rfl,rfl,rfl,rfl,trivial⟩ ⟨rfl,rfl,trivial⟩ trivial ?_
 rintro i ⟨ai,a6⟩
 try simp only at ai a6
 have Ee:i=8∨i<8:=by omega
 rcases Ee with rfl|Ee
 ·have hm:x.take 2∉gO:=fun h=>a6 _ (by simpa [gO] using h) rfl
  rw[if_neg hm,BB]at an
  simp only at an
  refine ao ?_
  (apply ae.uM (a) (a+1);(·simp(disch:=omega)only[go_sem,simprocAttr]<;>with_reducible rfl);(·simp(disch:=omega)only[go_sem,simprocAttr]<;>with_reducible rfl);(·simp(disch:=omega)only[go_sem,simprocAttr]<;>with_reducible rfl);(·omega);(·omega);(·omega);(·(try simp only[List.length_map]);omega))
  rw[show (s.take (a+1)).drop a=[c] from pS]
  refine ao ?_
  refine D.P (Jl) ?_
  by_cases ah:c∈qS
  ·rw[if_pos ah]at an
   simp only[decide_eq_true ah]
   refine ao ?_
   refine D.r ?_
   rw[an]
   rw[BB]at aH
   exact Ah (b:=a+1) (by simp only[List.length_cons]at aH; omega) ⟨rfl,⟨by simp only[Int.natCast_add]; rfl,trivial⟩,trivial⟩
  ·rw[if_neg ah]at an
   simp only[decide_eq_false ah]
   refine ao ?_
   refine D.r ?_
   rw[an]
   exact⟨rfl,trivial,trivial⟩
 ·obtain⟨m,hm⟩: ∃m,gO[i]? =some m:=⟨_,List.getElem?_eq_getElem (by simpa [gO] using Ee)⟩
  have Bp:m∈gO:=List.mem_of_getElem? hm
  have Bo:m.length=2:=by
   have: ∀m∈gO,m.length=2:=by decide
   exact this m Bp
  have wM:=OS x m Z5 (by omega)
  rw[decide_eq_decide.2 (ab1 Bp)]at wM
  obtain⟨lA,xb⟩: ∃lA,lA=decide (x.take 2=m):=⟨_,rfl⟩
  rw[←xb]at wM
  have L0:lA=false→∀aX∈gO.take (i+1),¬x.take 2=aX:=by
   intro hb aX Ei
   rw[List.take_add_one,hm]at Ei
   rcases List.mem_append.1 Ei with h|h
   ·exact a6 aX h
   ·have:aX=m:=by simpa using h
    subst this
    rw[hb]at xb
    simpa using xb.symm
  have iy:lA=true→R= .ok ⟨4,m,0,0⟩ (x.drop 2)∧2≤x.length:=by
   intro hb
   rw[hb]at xb
   have e:x.take 2=m:=by simpa using xb.symm
   rw[e,if_pos Bp]at an
   have:=congrArg List.length e
   rw[List.length_take,Bo]at this
   exact⟨an,by omega⟩
  clear a6 xb an Jl pS Bp Bo
  have Zg:i=0∨i=1∨i=2∨i=3∨i=4∨i=5∨i=6∨i=7:=by omega
  rcases Zg with rfl|rfl|rfl|rfl|rfl|rfl|rfl|rfl
  all_goals
   cases hm
   refine yc ?_
   repeat refine D.cN true true ?_
   refine aj.b6 ?_
   refine bK ?_
   repeat refine D.cN true true ?_
   refine aj.fs (anns:=[.bool lA]) ?_
   refine bK ?_
   (apply ae.RU (a);(·simp(disch:=omega)only[go_sem,simprocAttr]<;>with_reducible rfl);(·simp(disch:=omega)only[go_sem,simprocAttr]<;>with_reducible rfl);(·omega);(·(try simp only[List.length_map]);omega))
   rw[qL]
   refine bK ?_
   refine D.df (wM) ?_
   cases lA
   ·refine ao ?_
    refine aj.dK _ ⟨?_,L0 rfl⟩ ⟨rfl,rfl,rfl,rfl,rfl,trivial⟩ ⟨rfl,rfl,trivial⟩ trivial rfl rfl ?_
    ·decide
    ·decide
   ·obtain⟨an,aa⟩:=iy rfl
    refine ao ?_
    refine D.r ?_
    rw[an]
    exact Ah (b:=a+2) (by rw[List.length_drop]; omega) ⟨rfl,⟨by simp only[Int.natCast_add]; rfl,trivial⟩,trivial⟩
end
section
attribute [local go_sem] pe pf ba.row
def sn (c:UInt8):List I:=[.int .u8 (c.toNat:Int)]
theorem aL5 (l:List UInt8):fP (l.map sn)=true:=qx (fun _=>rfl) l
theorem HB: ∀l:List UInt8,jB (l.map sn)=some l
 |[]=>rfl
 |c::l=>by
  simp only[List.map_cons,sn,jB]
  have:=HB l
  rw[this]
  simp
theorem aJ8 (b:List UInt8) (c:UInt8) (x:List UInt8):jy b (c::x)=if c.toNat=34 then (if 40<b.length then .err 6 else .ok ⟨3,b,0,0⟩ x)
  else if c.toNat=92 then (match x with
   |[]=> .err 3
   |d::y=>if d.toNat=34∨d.toNat=92 then jy (b++[d]) y else .err 3)
  else if c.toNat<32∨126<c.toNat then .err 3 else jy (b++[c]) x:=by
 cases x with
 |nil=>simp only[jy]
 |cons d y=>rw[jy]
attribute [local go_sem] sn aL5
theorem az0 (s:List UInt8) (y:List UInt8) (a:Nat) (ap:s.length≤1000000) (ab:fT s y (a+1)):bz Tryz.prog 84 [.ptr 0 0] (pe s a) (tH s (jy [] y)):=by
 have aH:=ab.1
 obtain⟨R,an⟩: ∃R,R=jy [] y:=⟨_,rfl⟩
 rw[←an]
 refine bz.intro bN Tryz.func84 VS ?_
 unfold Kv Rl
 simp(disch:=omega)only[go_sem,simprocAttr]
 refine yc ?_
 refine aj.rL 4 1 5 rfl (by decide) ?_
 simp(disch:=omega)only[go_sem,simprocAttr]
 refine ao ?_
 refine aj.dd (X:=List UInt8×List UInt8×Nat) ([],y,a+1) (fun x=>[(0,.ptr 0 0),(2,.ptr 1 0),(3,.int .i64 0),(4,.own 0 1 (x.1.map sn))]) (fun x=>[(0,149,[.str s,.int .i64 (x.2.2:Int)]),(1,152,z4)]) (fun x=>[(0,.bJ 5 1 (x.1.map sn).length)]) (fun x=>fT s x.2.1 x.2.2∧x.1.length≤x.2.2∧R=jy x.1 x.2.1) (fun x=>x.2.1.length) ⟨ab,Nat.zero_le _,an⟩ ⟨rfl,rfl,rfl,rfl,trivial⟩ ⟨by simp only[Int.natCast_add]; rfl,rfl,trivial⟩ ⟨rfl,trivial⟩ ?_
 rintro⟨acc,y,p⟩ ⟨aZ,hb,an⟩
 simp only at aZ hb an ⊢
 have oY:=aZ.1
 clear ab aH
 cases y with
 |nil=>
  simp only[List.length_nil]at oY
  simp only[jy]at an
  have d1: ¬(p:Int)<(s.length:Int):=by omega
  (have al:=d1;refine bQ ?_;clear al)
  refine D.r ?_
  rw[an]
  exact⟨rfl,trivial,trivial⟩
 |cons c y=>
 have af:=aZ.get
 have ah:=zi c
 have aO:=aZ.tail
 simp only[List.length_cons]at oY
 have d1:(p:Int)<(s.length:Int):=by omega
 rw[aJ8]at an
 (have al:=d1;refine bQ ?_;clear al)
 clear af
 by_cases sU:c.toNat=34
 ·rw[if_pos sU]at an
  have d2:(c.toNat:Int)=34:=by omega
  by_cases Lf:40<acc.length
  ·rw[if_pos Lf]at an
   have d3:(40:Int)<((acc.map sn).length:Int):=by rw[List.length_map]; omega
   (have al:=d2;have z2:=d3;refine e8 ?_;clear al z2)
   refine D.r ?_
   rw[an]
   exact⟨rfl,trivial,trivial⟩
  ·rw[if_neg Lf]at an
   have d3: ¬(40:Int)<((acc.map sn).length:Int):=by rw[List.length_map]; omega
   (have al:=d2;have z2:=d3;refine e8 ?_;clear al z2)
   refine ae.Wz rfl rfl (HB acc) ?_
   refine ao ?_
   refine D.r ?_
   rw[an]
   exact Ah aO.eq ⟨rfl,⟨by simp only[Int.natCast_add]; rfl,trivial⟩,trivial⟩
 rw[if_neg sU]at an
 have d2: ¬(c.toNat:Int)=34:=by omega
 by_cases Lj:c.toNat=92
 ·rw[if_pos Lj]at an
  have d3:(c.toNat:Int)=92:=by omega
  cases y with
  |nil=>
   simp only[List.length_nil]at oY
   have d4:(p:Int)+1=(s.length:Int):=by omega
   (have al:=d2;have z2:=d3;have z3:=d4;refine ji ?_;clear al z2 z3)
   refine D.r ?_
   rw[an]
   exact⟨rfl,trivial,trivial⟩
  |cons e y=>
  have y6:=aO.get
  have he:=zi e
  have rZ:=aO.tail
  simp only[List.length_cons]at oY
  have d4: ¬(p:Int)+1=(s.length:Int):=by omega
  simp only at an
  by_cases J:e.toNat=34∨e.toNat=92
  ·rw[if_pos J]at an
   have f2: ¬(e.toNat:Int)<32:=by omega
   have f3: ¬ 126<(e.toNat:Int):=by omega
   rcases J with J|J
   focus
    have f1:(e.toNat:Int)=34:=by omega
    (repeat' first|(apply ae.s rfl;(·simp(disch:=omega)only[go_sem,simprocAttr,d2,d3,d4,f1,f2,f3]<;>with_reducible rfl))|(apply aj.s true true;(·simp(disch:=omega)only[go_sem,simprocAttr,d2,d3,d4,f1,f2,f3]<;>with_reducible rfl))|apply ae.nil|(refine aj.b6 ?_)|(apply ae.eX;(·simp(disch:=omega)only[go_sem,simprocAttr,d2,d3,d4,f1,f2,f3]<;>with_reducible rfl))|(apply ae.eY;(·rfl);(·simp(disch:=omega)only[go_sem,simprocAttr,d2,d3,d4,f1,f2,f3]<;>with_reducible rfl))|(apply ae.gs;(·simp(disch:=omega)only[go_sem,simprocAttr,d2,d3,d4,f1,f2,f3]<;>with_reducible rfl))|((first|apply ae.e3|apply ae.e4|apply ae.e5);(·simp(disch:=omega)only[go_sem,simprocAttr,d2,d3,d4,f1,f2,f3]<;>with_reducible rfl);(·simp(disch:=omega)only[go_sem,simprocAttr,d2,d3,d4,f1,f2,f3]<;>with_reducible rfl);(·assumption);(·omega))|intro h)
   rotate_left
   focus
    have f0: ¬(e.toNat:Int)=34:=by omega
    have f1:(e.toNat:Int)=92:=by omega
    (repeat' first|(apply ae.s rfl;(·simp(disch:=omega)only[go_sem,simprocAttr,d2,d3,d4,f0,f1,f2,f3]<;>with_reducible rfl))|(apply aj.s true true;(·simp(disch:=omega)only[go_sem,simprocAttr,d2,d3,d4,f0,f1,f2,f3]<;>with_reducible rfl))|apply ae.nil|(refine aj.b6 ?_)|(apply ae.eX;(·simp(disch:=omega)only[go_sem,simprocAttr,d2,d3,d4,f0,f1,f2,f3]<;>with_reducible rfl))|(apply ae.eY;(·rfl);(·simp(disch:=omega)only[go_sem,simprocAttr,d2,d3,d4,f0,f1,f2,f3]<;>with_reducible rfl))|(apply ae.gs;(·simp(disch:=omega)only[go_sem,simprocAttr,d2,d3,d4,f0,f1,f2,f3]<;>with_reducible rfl))|((first|apply ae.e3|apply ae.e4|apply ae.e5);(·simp(disch:=omega)only[go_sem,simprocAttr,d2,d3,d4,f0,f1,f2,f3]<;>with_reducible rfl);(·simp(disch:=omega)only[go_sem,simprocAttr,d2,d3,d4,f0,f1,f2,f3]<;>with_reducible rfl);(·assumption);(·omega))|intro h)
   all_goals
    refine D.gL ?_
    refine ao ?_
    refine aj.dK (acc++[e],y,p+1+1) ⟨rZ,by simp only[List.length_append,List.length_cons,List.length_nil]; omega,an⟩ ⟨rfl,rfl,rfl,by simp only[List.map_append,List.map_cons,List.map_nil,sn,f1]; rfl,trivial⟩ ⟨by simp only[Int.natCast_add]; rfl,rfl,trivial⟩ ⟨by simp only[List.map_append,List.map_cons,List.map_nil,List.length_append]; rfl,trivial⟩ rfl rfl (by show y.length<y.length+1+1; omega)
  ·rw[if_neg J]at an
   have f0: ¬(e.toNat:Int)=34:=by omega
   have f1: ¬(e.toNat:Int)=92:=by omega
   (repeat' first|(apply ae.s rfl;(·simp(disch:=omega)only[go_sem,simprocAttr,d2,d3,d4,f0,f1]<;>with_reducible rfl))|(apply aj.s true true;(·simp(disch:=omega)only[go_sem,simprocAttr,d2,d3,d4,f0,f1]<;>with_reducible rfl))|apply ae.nil|(refine aj.b6 ?_)|(apply ae.eX;(·simp(disch:=omega)only[go_sem,simprocAttr,d2,d3,d4,f0,f1]<;>with_reducible rfl))|(apply ae.eY;(·rfl);(·simp(disch:=omega)only[go_sem,simprocAttr,d2,d3,d4,f0,f1]<;>with_reducible rfl))|(apply ae.gs;(·simp(disch:=omega)only[go_sem,simprocAttr,d2,d3,d4,f0,f1]<;>with_reducible rfl))|((first|apply ae.e3|apply ae.e4|apply ae.e5);(·simp(disch:=omega)only[go_sem,simprocAttr,d2,d3,d4,f0,f1]<;>with_reducible rfl);(·simp(disch:=omega)only[go_sem,simprocAttr,d2,d3,d4,f0,f1]<;>with_reducible rfl);(·assumption);(·omega))|intro h)
   refine D.r ?_
   rw[an]
   exact⟨rfl,trivial,trivial⟩
 rw[if_neg Lj]at an
 have d3: ¬(c.toNat:Int)=92:=by omega
 by_cases J:c.toNat<32
 ·rw[if_pos (.inl J)]at an
  have f2:(c.toNat:Int)<32:=by omega
  (have al:=d2;have z2:=d3;have z3:=f2;refine ji ?_;clear al z2 z3)
  refine D.r ?_
  rw[an]
  exact⟨rfl,trivial,trivial⟩
 have f2: ¬(c.toNat:Int)<32:=by omega
 by_cases aa:126<c.toNat
 ·rw[if_pos (.inr aa)]at an
  have f3:126<(c.toNat:Int):=by omega
  (repeat' first|(apply ae.s rfl;(·simp(disch:=omega)only[go_sem,simprocAttr,d2,d3,f2,f3]<;>with_reducible rfl))|(apply aj.s true true;(·simp(disch:=omega)only[go_sem,simprocAttr,d2,d3,f2,f3]<;>with_reducible rfl))|apply ae.nil|(refine aj.b6 ?_)|(apply ae.eX;(·simp(disch:=omega)only[go_sem,simprocAttr,d2,d3,f2,f3]<;>with_reducible rfl))|(apply ae.eY;(·rfl);(·simp(disch:=omega)only[go_sem,simprocAttr,d2,d3,f2,f3]<;>with_reducible rfl))|(apply ae.gs;(·simp(disch:=omega)only[go_sem,simprocAttr,d2,d3,f2,f3]<;>with_reducible rfl))|((first|apply ae.e3|apply ae.e4|apply ae.e5);(·simp(disch:=omega)only[go_sem,simprocAttr,d2,d3,f2,f3]<;>with_reducible rfl);(·simp(disch:=omega)only[go_sem,simprocAttr,d2,d3,f2,f3]<;>with_reducible rfl);(·assumption);(·omega))|intro h)
  refine D.r ?_
  rw[an]
  exact⟨rfl,trivial,trivial⟩
 have f3: ¬ 126<(c.toNat:Int):=by omega
 rw[if_neg (by omega)]at an
 (repeat' first|(apply ae.s rfl;(·simp(disch:=omega)only[go_sem,simprocAttr,d2,d3,f2,f3]<;>with_reducible rfl))|(apply aj.s true true;(·simp(disch:=omega)only[go_sem,simprocAttr,d2,d3,f2,f3]<;>with_reducible rfl))|apply ae.nil|(refine aj.b6 ?_)|(apply ae.eX;(·simp(disch:=omega)only[go_sem,simprocAttr,d2,d3,f2,f3]<;>with_reducible rfl))|(apply ae.eY;(·rfl);(·simp(disch:=omega)only[go_sem,simprocAttr,d2,d3,f2,f3]<;>with_reducible rfl))|(apply ae.gs;(·simp(disch:=omega)only[go_sem,simprocAttr,d2,d3,f2,f3]<;>with_reducible rfl))|((first|apply ae.e3|apply ae.e4|apply ae.e5);(·simp(disch:=omega)only[go_sem,simprocAttr,d2,d3,f2,f3]<;>with_reducible rfl);(·simp(disch:=omega)only[go_sem,simprocAttr,d2,d3,f2,f3]<;>with_reducible rfl);(·assumption);(·omega))|intro h)
 refine D.gL ?_
 refine ao ?_
 refine aj.dK (acc++[c],y,p+1) ⟨aO,by simp only[List.length_append,List.length_cons,List.length_nil]; omega,an⟩ ⟨rfl,rfl,rfl,by simp only[List.map_append,List.map_cons,List.map_nil,sn]; rfl,trivial⟩ ⟨by simp only[Int.natCast_add]; rfl,rfl,trivial⟩ ⟨by simp only[List.map_append,List.map_cons,List.map_nil,List.length_append]; rfl,trivial⟩ rfl rfl (by show y.length<y.length+1; omega)
end
section
attribute [local go_sem] pe pf ba.row
theorem MK: ∀x:List UInt8,(Lib.indexByte x 10= -1∧vG x=[])∨∃o:Nat,Lib.indexByte x 10=(o:Int)∧o<x.length∧vG x=x.drop (o+1)
 |[]=> .inl ⟨rfl,rfl⟩
 |c::x=>by
  unfold Lib.indexByte vG
  rw[List.dropWhile_cons]
  by_cases h:c=10
  ·subst h
   exact .inr ⟨0,rfl,by simp,rfl⟩
  ·have J:(c==10)=false:=by simpa using h
   have aa:(c !=10)=true:=by simp [bne,J]
   simp only[J,aa,if_true,Bool.false_eq_true,if_false]
   rcases MK x with ⟨ar,ax⟩|⟨o,ar,ax,cw⟩
   ·left
    rw[ar]
    exact⟨rfl,ax⟩
   ·right
    rw[ar]
    refine⟨o+1,?_,by simp only[List.length_cons]; omega,cw⟩
    rw[if_neg (by simp only[beq_iff_eq]; omega)]
    omega
theorem TI (c:UInt8):decide (0≤Lib.indexByte [32,9,10,13] ((c.toNat:Int)).toNat.toUInt8)=lS c:=by
 have key: ∀n:Fin 256,decide (0≤Lib.indexByte [32,9,10,13] (((UInt8.ofNat n.val).toNat:Int)).toNat.toUInt8)=lS (UInt8.ofNat n.val):=by decide+kernel
 have:=key ⟨c.toNat,c.toNat_lt⟩
 simpa using this
theorem OT (s t:List UInt8) (b:Bool) (ap:s.length≤9223372036854775807) (aO:t.length≤9223372036854775807) (h:(t.length≤s.length∧s.take t.length=t)↔b=true):Pure Tryz.prog 145 [.str s,.str t] (.bool b):=by
 have e:=OS s t ap aO
 have:decide (t.length≤s.length∧s.take t.length=t)=b:=by rw[Bool.eq_iff_iff,←h]; simp only[decide_eq_true_eq]
 rw[this]at e
 exact e
theorem Xf (c:UInt8):Pure Tryz.prog 144 [.str [32,9,10,13],.int .i32 (c.toNat:Int)] (.bool (lS c)):=by
 have ah:c.toNat<256:=c.toNat_lt
 by_cases h:c.toNat<128
 ·have e:=al0 [32,9,10,13] (c.toNat:Int) (by omega) (by omega)
  rw[TI]at e
  exact e
 ·have e:=al1 (c.toNat:Int) (by omega) (by omega)
  have:lS c=false:=by
   have bC:c≠32:=fun e=>by subst e; exact h (by decide)
   have bA:c≠9:=fun e=>by subst e; exact h (by decide)
   have cO:c≠10:=fun e=>by subst e; exact h (by decide)
   have fC:c≠13:=fun e=>by subst e; exact h (by decide)
   simp [lS,bC,bA,cO,fC]
  rw[this]
  exact e
theorem Pa (s x:List UInt8) (a:Nat) (ap:s.length≤1000000) (ab:fT s x a):
  bz Tryz.prog 78 [.ptr 0 0] (pe s a) (fJ (.di []) [(0,149,pf s (s.length-(ko (x.length+1) x).length))] []):=by
 obtain⟨R,an⟩: ∃R,R=ko (x.length+1) x:=⟨_,rfl⟩
 rw[←an]
 refine bz.intro bN Tryz.func78 VM ?_
 unfold sP Rf
 simp(disch:=omega)only[go_sem,simprocAttr]
 refine D.cN true true ?_
 refine aj.dd (X:=List UInt8×Nat×Nat) (x,a,x.length+1) (fun y=>[(0,.ptr 0 0)]) (fun y=>[(0,149,[.str s,.int .i64 (y.2.1:Int)])]) (fun _=>[]) (fun y=>fT s y.1 y.2.1∧y.1.length<y.2.2∧R=ko y.2.2 y.1) (fun y=>y.1.length) ⟨ab,by simp,an⟩ ⟨rfl,trivial⟩ ⟨rfl,trivial⟩ trivial ?_
 rintro⟨y,p,n⟩ ⟨aZ,a6,an⟩
 simp only at aZ a6 an ⊢
 clear ab
 have oY:=aZ.1
 rcases n with _|n
 ·omega
 cases y with
 |nil=>
  simp only[List.length_nil]at oY
  simp only[ko]at an
  have d1: ¬(p:Int)<(s.length:Int):=by omega
  (have al:=d1;refine bQ ?_;clear al)
  refine D.r ?_
  rw[an]
  exact⟨rfl,⟨by rw[List.length_nil,show s.length-0=p by omega]; rfl,trivial⟩,trivial⟩
 |cons c y=>
 have af:(c::y)[0]? =some c:=rfl
 have ah:c.toNat<256:=c.toNat_lt
 have ur:=aZ.2
 have aO:=aZ.tail
 simp only[List.length_cons]at oY a6
 simp only[ko]at an
 have d1:(p:Int)<(s.length:Int):=by omega
 have Xe:=Xf c
 obtain⟨Y,fV⟩: ∃Y,Y=c::y:=⟨_,rfl⟩
 have uk:Y.length=y.length+1:=by rw[fV]; rfl
 rw[←fV]at an ur af aZ
 have aM3:IntKind.i32.wrap (c.toNat:Int)=(c.toNat:Int):=by rw[IntKind.wrap_i32]; omega
 (have al:=d1;refine bQ ?_;clear al)
 (apply ae.RU (p);(·simp(disch:=omega)only[go_sem,simprocAttr]<;>with_reducible rfl);(·simp(disch:=omega)only[go_sem,simprocAttr]<;>with_reducible rfl);(·omega);(·(try simp only[List.length_map]);omega))
 rw[ur]
 (have al:=aM3;refine bQ ?_;clear al)
 refine D.P (Xe) ?_
 by_cases hb:lS c=true
 ·rw[if_pos hb]at an
  rw[hb]
  refine ao ?_
  refine aj.dK (y,p+1,n) ⟨aO,by simp only; omega,an⟩ ⟨rfl,trivial⟩ ⟨by simp only[Int.natCast_add]; rfl,trivial⟩ trivial rfl rfl (by show y.length<y.length+1; omega)
 rw[if_neg hb]at an
 have gu:lS c=false:=by simpa using hb
 rw[gu]
 refine ao ?_
 by_cases aa:Y.take 2=[47,47]
 ·rw[if_pos aa]at an
  have au:2≤Y.length:=by
   have:=congrArg List.length aa
   rw[List.length_take]at this
   simp at this
   omega
  refine D.P (OT Y [47,47] true (by omega) (by decide) (iff_of_true ⟨au,aa⟩ rfl)) ?_
  have Jk:=al2 Y 10
  rw[show (10:Int).toNat.toUInt8=10 from rfl]at Jk
  refine ao ?_
  refine D.P (Jk) ?_
  rcases MK Y with ⟨i1,i2⟩|⟨o,i1,i2,i3⟩
  ·rw[i1]
   rw[i2]at an
   refine ao ?_
   refine aj.dK ([],p+Y.length,n) ⟨⟨by show p+Y.length+0=s.length; omega,by show s.drop (p+Y.length)=[]; exact List.drop_eq_nil_of_le (by omega)⟩,by simp only[List.length_nil]; omega,an⟩ ⟨rfl,trivial⟩ ⟨by simp only[uk]; rw[show ((p+(y.length+1):Nat):Int)=(p:Int)+((y.length:Int)+1-1+1) by omega]; rfl,trivial⟩ trivial rfl rfl (by show 0<y.length+1; omega)
  ·rw[i1]
   rw[i3]at an
   have d5: ¬(o:Int)<0:=by omega
   (have al:=d5;refine bQ ?_;clear al)
   have nL:fT s (Y.drop (o+1)) (p+(o+1)):=by
    have:=fT.dM (Y.take (o+1)) (by rw[List.take_append_drop]; exact aZ)
    rw[List.length_take,Nat.min_eq_left (by omega)]at this
    exact this
   refine aj.dK (Y.drop (o+1),p+(o+1),n) ⟨nL,by simp only[List.length_drop]; omega,an⟩ ⟨rfl,trivial⟩ ⟨by simp only[Int.natCast_add]; rfl,trivial⟩ trivial rfl rfl (by show (Y.drop (o+1)).length<y.length+1; rw[List.length_drop]; omega)
 ·rw[if_neg aa]at an
  refine D.P (OT Y [47,47] false (by omega) (by decide) (iff_of_false (fun h=>aa h.2) (by decide))) ?_
  refine ao ?_
  refine D.r ?_
  rw[an]
  exact⟨rfl,⟨by rw[aZ.eq]; rfl,trivial⟩,trivial⟩
end
section
attribute [local go_sem] pe pf ba.row oC
theorem D.B {dD:Program}{anns:List I}{l:List bP}{env:Env}{c c2:a1}{K:Env→a1→Prop}{Rp:I→a1→Prop}{f:FuncId}{args:List aK}{x:aK}{dz cap:List I}{v bT:I}{d:Nat}(s:bt){gd bl1:fe}{gn tl1:fp}{n q:Nat}(aW:c9 dD f=true) (h:bz dD f dz (a1.of n q gd gn) (fJ v bl1 tl1)) (aC:ae dD anns l ((d,bT)::env) c2 K Rp)
  (ab:bp env x= .fn (f+hW) cap:=by simp (disch:=omega) only[go_sem,simprocAttr]<;>with_reducible rfl)
  (ah:(nodupB s.b&&nodupB s.t&&s.b.all (fun x=>Nat.blt x c.b7)&&s.t.all (fun x=>Nat.blt x c.bF))=true:=by simp (disch:=omega) only[go_sem,simprocAttr]<;>rfl) (a6:s.b.length=n:=by rfl) (aO:s.t.length=q:=by rfl) (hb:(dr n q dz&&(dP n q gd&&dV n q gn))=true:=by simp (disch:=omega) only[go_sem,simprocAttr]<;>rfl) (J:(dP n q bl1&&(dV n q tl1&&v.cR n q))=true:=by simp (disch:=omega) only[go_sem,simprocAttr]<;>rfl)
  (dX:lX c.H.aU s gd:=by repeat first|exact trivial|refine⟨rfl,?_⟩) (c4:nJ c.H.tok s gn:=by repeat first|exact trivial|refine⟨rfl,?_⟩) (aP:cap++args.map (bp env)=hB s dz:=by simp (disch:=omega) only[go_sem,simprocAttr]<;>rfl) (af:v.eF s=bT:=by simp (disch:=omega) only[go_sem,simprocAttr]<;>with_reducible rfl) (hu:c.mM s bl1 tl1=c2:=by simp (disch:=omega) only[go_sem,simprocAttr]<;>with_reducible rfl):ae dD anns (⟨some d,none,.fw x args⟩::l) env c K Rp:=by
 subst af hu
 exact ae.TN rfl ab aW (bz.pM s h a6 aO ah dX c4 hb J rfl) aP aC
theorem Wn:c9 Tryz.prog 79=true:=by kernel_rfl
theorem Wo:c9 Tryz.prog 81=true:=by kernel_rfl
theorem Wq:c9 Tryz.prog 83=true:=by kernel_rfl
theorem Wr:c9 Tryz.prog 84=true:=by kernel_rfl
theorem aw8 (s:List UInt8) (ap:s.length≤1000000):Pure Tryz.prog 30 [.str s] (BH (pV s)):=by
 obtain⟨R,an⟩: ∃R,R=pV s:=⟨_,rfl⟩
 rw[←an]
 refine cF bN Tryz.func30 Vd rfl (by cases R<;>simp only[BH,I.flat,b3,oC,fP,Bool.and_self]) ?_
 unfold ry QE
 unfold pV at an
 simp(disch:=omega)only[go_sem,simprocAttr]
 by_cases j7:8000<s.length
 ·rw[if_pos j7]at an
  have d1:(8000:Int)<(s.length:Int):=by omega
  (have al:=d1;refine bQ ?_;clear al)
  refine D.r ?_
  rw[an]
  exact⟨_,rfl,.di (.cons .nil (.cons (.av rfl rfl) (.cons (.av rfl rfl) .nil))),trivial,trivial⟩
 rw[if_neg j7,uw]at an
 have d1: ¬(8000:Int)<(s.length:Int):=by omega
 have sP:=Pa s s 0 ap (fT.refl s)
 obtain⟨aL3,Mc⟩:=Cp (s.length+1) s
 obtain⟨BU,L2,EB,_⟩:=(fT.refl s).of Mc
 generalize ko (s.length+1) s=wo at*
 rw[L2]at sP
 clear L2 Mc
 (have al:=d1;refine pu ?_;clear al)
 refine D.F ⟨[0],[]⟩ (sP) ?_
 refine yc ?_
 refine aj.rL 2 4 152 rfl (by decide) ?_
 simp(disch:=omega)only[go_sem,simprocAttr]
 refine D.cN true true ?_
 have oo:wo.length≤s.length:=by have:=EB.1; omega
 clear sP d1
 refine aj.dd (X:=List ba×List UInt8×Nat×Nat) ([],wo,BU,s.length) (fun x=>[(0,.str s),(5,.ptr 0 0),(2,.own 0 4 (x.1.map ba.row))]) (fun x=>[(0,149,[.str s,.int .i64 (x.2.2.1:Int)])]) (fun x=>[(0,.bJ 152 4 (x.1.map ba.row).length)]) (fun x=>fT s x.2.1 x.2.2.1∧x.1.length≤x.2.2.1∧x.2.1.length≤x.2.2.2∧R=lexB s.length x.2.2.2 x.1 x.2.1) (fun x=>x.2.1.length) ⟨EB,Nat.zero_le _,oo,an⟩ ⟨rfl,rfl,rfl,trivial⟩ ⟨rfl,trivial⟩ ⟨rfl,trivial⟩ ?_
 rintro⟨acc,y,p,n⟩ ⟨aZ,hb,a6,an⟩
 simp only at aZ hb a6 an ⊢
 clear EB oo
 have oY:=aZ.1
 cases y with
 |nil=>
  simp only[List.length_nil]at oY
  simp only[lexB]at an
  have d1: ¬(p:Int)<(s.length:Int):=by omega
  (have al:=d1;refine bQ ?_;clear al)
  refine D.r ?_
  rw[an]
  exact⟨_,rfl,.di (.cons (.av rfl (by simp only[I.flat,oC])) (.cons (.av rfl rfl) (.cons (.av rfl rfl) .nil))),trivial,trivial⟩
 |cons c y=>
 have af:=aZ.get
 have ah:=zi c
 simp only[List.length_cons]at oY
 have d1:(p:Int)<(s.length:Int):=by omega
 simp only[lexB]at an
 rw[aZ.eq]at an
 obtain⟨T,c4⟩: ∃T,T=l9 (c::y):=⟨_,rfl⟩
 have ZW: ∀t r,T= .ok t r→∃d u,c::y=(d::u)++r:=fun t r h=>Sb (c4▸h)
 have Y8: ∀wR,T= .err wR→wR≠0:=fun wR h=>Sa (c4▸h)
 rw[←c4]at an
 simp only[l9]at c4
 have yz:Pure Tryz.prog 80 [.int .u8 (c.toNat:Int)] (.bool (l1 c)):=FB _
 have Xh:Pure Tryz.prog 82 [.int .u8 (c.toNat:Int)] (.bool (iY c)):=FC _
 (have al:=d1;refine pu ?_;clear al)
 refine D.cN true true ?_
 refine yc ?_
 clear af
 refine aj.C5 (X:=FuncId) (fun f=>[(0,.str s),(5,.ptr 0 0),(2,.own 0 4 (acc.map ba.row)),(6,.fn (f+hW) [.ptr 0 0])]) (fun _=>[(0,149,[.str s,.int .i64 (p:Int)])]) (fun _=>[(0,.bJ 152 4 (acc.map ba.row).length)]) (fun f=>c9 Tryz.prog f=true∧bz Tryz.prog f [.ptr 0 0] (pe s p) (tH s T)) ?_ ?_
 rotate_left
 ·intro bq
  refine ao ?_
  refine D.P (yz) ?_
  cases ek:l1 c
  rotate_left
  ·rw[if_pos ek]at c4
   have e:=ay8 s (c::y) p ap aZ
   rw[←c4]at e
   refine bK ?_
   refine D.cN true true ?_
   refine aj.b6 ?_
   refine bK ?_
   refine aj.gV ?_
   refine bq _ _ 81 ⟨Wo,e⟩ ?_ ?_ ?_ ?_ ?_
   all_goals first|rfl|exact⟨rfl,trivial⟩|exact⟨rfl,rfl,rfl,rfl,trivial⟩
  rw[if_neg (by rw[ek]; decide)]at c4
  refine ao ?_
  refine D.P (Xh) ?_
  cases Ll:iY c
  rotate_left
  ·rw[if_pos Ll]at c4
   have e:=ay9 s (c::y) p ap aZ
   rw[←c4]at e
   refine bK ?_
   refine D.cN true true ?_
   refine aj.b6 ?_
   refine bK ?_
   refine aj.gV ?_
   refine bq _ _ 83 ⟨Wq,e⟩ ?_ ?_ ?_ ?_ ?_
   all_goals first|rfl|exact⟨rfl,trivial⟩|exact⟨rfl,rfl,rfl,rfl,trivial⟩
  rw[if_neg (by rw[Ll]; decide)]at c4
  refine ao ?_
  by_cases sU:c.toNat=34
  ·rw[if_pos sU]at c4
   have e:=az0 s y p ap aZ.tail
   rw[←c4]at e
   have d2:(c.toNat:Int)=34:=by omega
   simp only[decide_eq_true d2]
   refine D.cN true true ?_
   refine aj.b6 ?_
   refine bK ?_
   refine aj.gV ?_
   refine bq _ _ 84 ⟨Wr,e⟩ ?_ ?_ ?_ ?_ ?_
   all_goals first|rfl|exact⟨rfl,trivial⟩|exact⟨rfl,rfl,rfl,rfl,trivial⟩
  ·rw[if_neg sU]at c4
   have e:=ay7 s c y p ap aZ
   rw[←c4]at e
   have d2: ¬(c.toNat:Int)=34:=by omega
   simp only[decide_eq_false d2]
   refine D.cN true true ?_
   refine aj.skip ?_
   refine aj.gV ?_
   refine bq _ _ 79 ⟨Wn,e⟩ ?_ ?_ ?_ ?_ ?_
   all_goals first|rfl|exact⟨rfl,trivial⟩|exact⟨rfl,rfl,rfl,rfl,trivial⟩
 rintro f ⟨rQ,e⟩
 simp(disch:=omega)only[go_sem,simprocAttr]
 refine ao ?_
 clear c4
 cases T with
 |err wR=>
  simp only at an
  have d2: ¬wR=0:=Y8 wR rfl
  refine D.B ⟨[0],[]⟩ rQ e ?_
  (have al:=d2;refine bQ ?_;clear al)
  refine D.r ?_
  rw[an]
  exact⟨_,rfl,.di (.cons .nil (.cons (.av rfl rfl) (.cons (.av rfl rfl) .nil))),trivial,trivial⟩
 |ok t r=>
  simp only at an
  obtain⟨d,u,hu⟩:=ZW t r rfl
  obtain⟨fR,pR,L5,yZ⟩:=aZ.of hu
  rw[show tH s (.ok t r)=fJ (.di [.agg t.row,.int .i64 0]) [(0,149,pf s fR)] [] by simp only[tH,pR]]at e
  have sP:=Pa s r fR ap L5
  obtain⟨x5,Bx⟩:=Cp (r.length+1) r
  obtain⟨il,rW,ZM,oX⟩:=L5.of Bx
  have uq:r.length<(c::y).length:=by rw[hu]; simp only[List.length_append,List.length_cons]; omega
  rcases n with _|n
  ·simp at a6
  rw[uw]at an
  have Me:(ko (r.length+1) r).length≤r.length:=by have:=congrArg List.length Bx; rw[List.length_append]at this; omega
  generalize ko (r.length+1) r=po at*
  rw[rW]at sP
  refine D.B ⟨[0],[]⟩ rQ e ?_
  refine ao ?_
  refine D.gL ?_
  refine ao ?_
  refine D.F ⟨[0],[]⟩ (sP) ?_
  refine ao ?_
  simp only[List.length_cons]at a6 uq yZ
  refine aj.gT (acc++[⟨t.kind,t.text,t.val,(p:Int)⟩],po,il,n) ⟨ZM,by simp only[List.length_append,List.length_cons,List.length_nil]; omega,by simp only; omega,an⟩ ⟨rfl,rfl,by simp only[List.map_append,List.map_cons,List.map_nil,ba.row]; rfl,trivial⟩ ⟨rfl,trivial⟩ ⟨by simp only[List.map_append,List.map_cons,List.map_nil,List.length_append]; rfl,trivial⟩ rfl (by simp only[fY,dr,dP,dV,fO,I.cR,b2.bJ,oC,go_sem]<;>rfl) (by show po.length<y.length+1; omega)
end
end Go.bc.T.N
namespace Go.bc
open Go
abbrev a7:=List UInt8
def iC:a7→a7
 |[]=>[]
 |c::s=>(if c.toNat=34∨c.toNat=92 then[92,c] else[c])++iC s
def p4 (s:a7):a7:=[34]++iC s++[34]
def ad.kind:ad→Int| .mk k _ _ _ _ _=>k
def ad.op:ad→a7| .mk _ o _ _ _ _=>o
def ac.kind:ac→Int| .mk k _ _ _ _ _=>k
def fX (x:ad) (s:a7) (k:Int):a7:=if x.kind=6∧cV x.op<k then[40]++s++[41] else s
def MG:List a7→a7
 |s:: _=>[108,101,110,40]++s++[41]
 |[]=>[]
def Sx (o:a7):List ad→List a7→a7
 |x:: _,s:: _=>o++fX x s 7
 | _,_=>[]
def Ht (o:a7):List ad→List a7→a7
 |x::y:: _,s::u:: _=>fX x s (cV o)++[32]++o++[32]++fX y u (cV o+1)
 | _,_=>[]
def A4 (k:Int) (o m t:a7) (n:Int) (l:List ad) (lL:List a7):a7:=
 if k=1 then Lib.itoa n else if k=2 then p4 t else if k=3 then m else if k=4 then MG lL else if k=5 then Sx o l lL else Ht o l lL
mutual
def cm:ad→a7
 | .mk k o m t n l=>A4 k o m t n l (Cm l)
def Cm:List ad→List a7
 |[]=>[]
 |x::l=>cm x::Cm l
end
theorem Cn: ∀l,Cm l=l.map cm
 |[]=>rfl
 |x::l=>by simp only[Cm,List.map_cons,Cn l]
def eE (d:Nat) (ps:List a7):a7:=List.replicate d 9++ps.flatten++[10]
def jH:List ac→Bool
 |[y]=>decide (y.kind=2)
 | _=>false
mutual
def ac.gS (d:Nat) (bw:a7):ac→a7
 | .mk k m x t a b=>if k=1 then eE d [m,[32,61,32],cm x,[59]]
  else if k=3 then eE d [[119,104,105,108,101,32],cm x,[32,116,105,109,101,115,32],Lib.itoa t,[32,123]]++ac.fF (d+1) a++eE d [[125]]
  else eE d [bw,cm x,[32,123]]++ac.fF (d+1) a++(if jH b=true then ac.rC d b else (if b.isEmpty=true then[] else eE d [[125,32,101,108,115,101,32,123]]++ac.fF (d+1) b)++eE d [[125]])
def ac.fF (d:Nat):List ac→a7
 |[]=>[]
 |x::l=>ac.gS d [105,102,32] x++ac.fF d l
def ac.rC (d:Nat):List ac→a7
 |[]=>[]
 |y:: _=>ac.gS d [125,32,101,108,115,101,32,105,102,32] y
end
def qM (k n:Int) (s:a7):a7:=if k=2 then p4 s else Lib.itoa n
def jT (v:cb):a7:=eE 1 [[118,97,114,32],v.name,[58,32],if v.hV=2 then[116,101,120,116,32] else[105,110,116,32],Lib.itoa v.cz,[32,46,46,32],Lib.itoa v.ai,[32,61,32],qM v.ik v.n v.s,[59]]
def jb (h:cd):a7:=eE 1 [[111,110,32],h.eK,[40],Lib.join h.ps [44,32],[41,32,102,114,111,109,32],h.peer,[32,123]]++ac.fF 2 h.body++eE 1 [[125]]
def p9:List ad→a7
 |[]=>[]
 |x:: _=>[32,119,104,101,114,101,32]++cm x
def jJ (o:ca):a7:=eE 1 [[111,102,102,101,114,32],o.eK,[40],Lib.join (o.args.map cm) [44,32],[41,32,116,111,32],o.peer,p9 o.dT,[59]]
def iK (x:e9):a7:=
 eE 0 [[115,101,114,118,105,99,101,32],x.name,[32,112,108,97,121,115,32],x.hD,[32,111,102,32],x.hA,[32,123]]++(x.vars.map jT).flatten++(x.ap.map jb).flatten++(x.os.map jJ).flatten++eE 0 [[125]]
end Go.bc
namespace Go.bc.T.N
open Go Go.bc Go.Proofs Go.RowKit
set_option maxRecDepth 100000
attribute [local irreducible] Go.bc.aj Go.bc.ae Go.bc.bz
section
theorem lT (l:List UInt8):fP (l.map hL)=true:=qx (fun _=>rfl) l
attribute [local go_sem] hL lT
abbrev lA (T:TypeId) (A:I) (out:List UInt8) (cs:List I):fe:=[(0,T,A:: .own 0 1 (out.map hL)::cs)]
abbrev qo (out:List UInt8):fp:=[(0,.bJ 5 1 (out.map hL).length)]
abbrev pC (T:TypeId) (A:I) (out:List UInt8) (cs:List I):a1:=a1.of 1 1 (lA T A out cs) (qo out)
def BT (T:TypeId) (cs:List I):Prop:=(T=180∧cs=[])∨(T=182∧∃d:Int,cs=[.int .i64 d])
theorem t199 {T:TypeId}{A:I}{cs:List I}(c4:BT T cs) (out:List UInt8) (fa:BP 0 A=true):bz Tryz.prog 199 [.ptr 0 0] (pC T A out cs) (fJ (.di []) (lA T (.ptr 0 0) out cs) (qo out)):=by
 have aH:liesAt Tryz.prog Tryz.prog.depth T ((I.own 0 1 (out.map hL)::cs).length+1|>(·/Tryz.prog.cellsOf T)) 0 (Tryz.za.t 72) 1=true:=by
  rcases c4 with ⟨rfl,rfl⟩|⟨rfl,d,rfl⟩
  ·kernel_rfl
  ·kernel_rfl
 have:=Wd (c:=pC T A out cs) Tryz.af6 Tryz.yB.toX72 (T:=T) (b:=0) (a:=A) (cs:= .own 0 1 (out.map hL)::cs) aH rfl fa
 rw[BO]at this
 exact this.mono fun o c ⟨ar,ax⟩=>by subst ar ax; exact⟨rfl,⟨rfl,trivial⟩,rfl,trivial⟩
def z8 (A:I):Prop:=A= .dQ (.pointer none)∨A= .ptr 0 0
theorem Hl {A:I}(h:z8 A):BP 0 A=true:=by rcases h with rfl|rfl<;>rfl
theorem OX {T:TypeId}{A:I}{cs:List I}(c4:BT T cs) (fa:z8 A) (out s:List UInt8) (aH:out.length+s.length≤1000000000):bz Tryz.prog 176 [.ptr 0 0,.str s] (pC T A out cs) (fJ (.di [.int .i64 (s.length:Int),.dQ .nilIface]) (lA T (.ptr 0 0) (out++s) cs) (qo (out++s))):=by
 have e:=t199 c4 out (Hl fa)
 have hb:rowsOf 1 (.str s)=some (s.map hL):=rfl
 have oX:(out.map hL).length=out.length:=List.length_map _
 rcases fa with rfl|rfl<;>rcases c4 with ⟨rfl,rfl⟩|⟨rfl,d,rfl⟩
 all_goals
  refine bz.intro bN Tryz.func176 UW ?_
  unfold JJ Qm
  simp(disch:=omega)only[go_sem,simprocAttr]
  refine ao ?_
  refine D.F ⟨[0],[0]⟩ (e) ?_
  refine ao ?_
  (apply ae.Hj (new:=s.map hL);(·simp(disch:=omega)only[go_sem,simprocAttr]<;>with_reducible rfl);(·simp(disch:=omega)only[go_sem,simprocAttr]<;>with_reducible rfl);(·exact hb);(·simp only[List.length_map]; omega);(·simp only[List.length_map,maxLen]; omega))
  refine ao ?_
  refine D.r ?_
  refine⟨rfl,⟨?_,trivial⟩,?_,trivial⟩
  ·simp only[List.map_append]; rfl
  ·simp only[List.map_append,List.length_append]; rfl
theorem xF {T:TypeId}{A:I}{cs:List I}(c4:BT T cs) (fa:z8 A) (out:List UInt8) (c:UInt8) (z:Int) (aB:(c.toNat:Int)=z) (aH:out.length+1≤1000000000):bz Tryz.prog 178 [.ptr 0 0,.int .u8 z] (pC T A out cs) (fJ (.dQ .nilIface) (lA T (.ptr 0 0) (out++[c]) cs) (qo (out++[c]))):=by
 have e:=t199 c4 out (Hl fa)
 have oX:(out.map hL).length=out.length:=List.length_map _
 subst aB
 rcases fa with rfl|rfl<;>rcases c4 with ⟨rfl,rfl⟩|⟨rfl,d,rfl⟩
 all_goals
  refine bz.intro bN Tryz.func178 UX ?_
  unfold JK Qn
  simp(disch:=omega)only[go_sem,simprocAttr]
  refine ao ?_
  refine D.F ⟨[0],[0]⟩ (e) ?_
  refine ao ?_
  refine D.gL ?_
  refine ao ?_
  refine D.r ?_
  refine⟨rfl,⟨?_,trivial⟩,?_,trivial⟩
  ·simp only[List.map_append]; rfl
  ·simp only[List.map_append,List.length_append]; rfl
end
section
attribute [local go_sem] hL lT
theorem t129 {T:TypeId}{A:I}{cs:List I}(fa:True) (out:List UInt8) (aw:out≠[]):bz Tryz.prog 129 [.ptr 0 0] (pC T A out cs) (fJ (.str out) [] []):=by
 have:=aI1 (c:=pC T A out cs) Tryz.af5 Tryz.yB (T:=T) (b:=0) (t:=0) (cs:=A:: .own 0 1 (out.map hL)::cs) (l:=out) rfl rfl (by simp only[pC,qo,List.length_map]; rfl) aw
 exact this.mono fun o c ⟨ar,ax⟩=>by subst ar; exact⟨rfl,trivial,trivial⟩
theorem FF: ∀a b:a7,iC (a++b)=iC a++iC b
 |[],b=>rfl
 |c::a,b=>by simp only[List.cons_append,iC,FF a b,List.append_assoc]
theorem xG: ∀a:a7,(iC a).length≤2*a.length
 |[]=>Nat.le_refl _
 |c::a=>by
  have:=xG a
  simp only[iC,List.length_append,List.length_cons]
  split<;>simp only[List.length_cons,List.length_nil]<;>omega
theorem aB7 {s:a7}{i:Nat}{c:UInt8}(h:s[i]? =some c):iC (s.take (i+1))=iC (s.take i)++(if c.toNat=34∨c.toNat=92 then[92,c] else[c]):=by
 rw[List.take_add_one,h,FF]
 simp only[Option.toList_some,iC,List.append_nil]
theorem OZ (s:a7) (ap:s.length≤100000000):Pure Tryz.prog 180 [.str s] (.str (p4 s)):=by
 refine cF bN Tryz.func180 UZ rfl rfl ?_
 unfold JL Qq
 simp(disch:=omega)only[go_sem,simprocAttr]
 refine D.cN true true ?_
 refine aj.b6 ?_
 refine bK ?_
 refine D.cN true true ?_
 refine aj.b6 ?_
 refine bK ?_
 have dX:BT 180 []:= .inl ⟨rfl,rfl⟩
 refine aj.oU 0 1 1 5 rfl rfl (by decide) ?_
 simp(disch:=omega)only[go_sem,simprocAttr]
 refine ao ?_
 refine D.F ⟨[0],[0]⟩ (xF dX (.inl rfl) [] 34 34 rfl (by decide)) ?_
 refine ao ?_
 refine aj.dd (X:=Nat) 0 (fun i=>[(0,.str s),(3,.ptr 0 0),(7,.int .i64 (s.length:Int)),(8,.int .i64 (i:Int))]) (fun i=>lA 180 (.ptr 0 0) ([34]++iC (s.take i)) []) (fun i=>qo ([34]++iC (s.take i))) (fun i=>i≤s.length) (fun i=>s.length-i) (Nat.zero_le _) ⟨rfl,rfl,rfl,rfl,trivial⟩ ⟨rfl,trivial⟩ ⟨rfl,trivial⟩ ?_
 intro i ai
 try simp only at ai ⊢
 have Eo:=xG (s.take i)
 rw[List.length_take]at Eo
 cases af:s[i]? with
 |some c=>
  have cK:=(List.getElem?_eq_some_iff.1 af).1
  have d1:(i:Int)<(s.length:Int):=by omega
  have ev:=aB7 af
  obtain⟨Y,fV⟩: ∃Y,Y=[34]++iC (s.take i):=⟨_,rfl⟩
  have uk:Y.length≤400000000:=by rw[fV]; simp only[List.length_append,List.length_cons,List.length_nil]; omega
  rw[←fV]
  by_cases sU:c.toNat=34∨c.toNat=92
  ·rw[if_pos sU]at ev
   have ur:34::iC (s.take (i+1))=Y++[92]++[c]:=by rw[ev,fV]; simp
   clear fV ev
   rcases sU with h|h
   focus
    have d2:(c.toNat:Int)=34:=by omega
    (repeat' first|(apply ae.s rfl;(·simp(disch:=omega)only[go_sem,simprocAttr,d1,d2]<;>with_reducible rfl))|(apply aj.s true true;(·simp(disch:=omega)only[go_sem,simprocAttr,d1,d2]<;>with_reducible rfl))|apply ae.nil|(refine aj.b6 ?_)|(apply ae.eX;(·simp(disch:=omega)only[go_sem,simprocAttr,d1,d2]<;>with_reducible rfl))|(apply ae.eY;(·rfl);(·simp(disch:=omega)only[go_sem,simprocAttr,d1,d2]<;>with_reducible rfl))|(apply ae.gs;(·simp(disch:=omega)only[go_sem,simprocAttr,d1,d2]<;>with_reducible rfl))|((first|apply ae.e3|apply ae.e4|apply ae.e5);(·simp(disch:=omega)only[go_sem,simprocAttr,d1,d2]<;>with_reducible rfl);(·simp(disch:=omega)only[go_sem,simprocAttr,d1,d2]<;>with_reducible rfl);(·assumption);(·omega))|intro h)
   rotate_left
   focus
    have d2: ¬(c.toNat:Int)=34:=by omega
    have d3:(c.toNat:Int)=92:=by omega
    (repeat' first|(apply ae.s rfl;(·simp(disch:=omega)only[go_sem,simprocAttr,d1,d2,d3]<;>with_reducible rfl))|(apply aj.s true true;(·simp(disch:=omega)only[go_sem,simprocAttr,d1,d2,d3]<;>with_reducible rfl))|apply ae.nil|(refine aj.b6 ?_)|(apply ae.eX;(·simp(disch:=omega)only[go_sem,simprocAttr,d1,d2,d3]<;>with_reducible rfl))|(apply ae.eY;(·rfl);(·simp(disch:=omega)only[go_sem,simprocAttr,d1,d2,d3]<;>with_reducible rfl))|(apply ae.gs;(·simp(disch:=omega)only[go_sem,simprocAttr,d1,d2,d3]<;>with_reducible rfl))|((first|apply ae.e3|apply ae.e4|apply ae.e5);(·simp(disch:=omega)only[go_sem,simprocAttr,d1,d2,d3]<;>with_reducible rfl);(·simp(disch:=omega)only[go_sem,simprocAttr,d1,d2,d3]<;>with_reducible rfl);(·assumption);(·omega))|intro h)
   all_goals
    refine D.F ⟨[0],[0]⟩ (xF dX (.inr rfl) Y 92 92 rfl (by omega)) ?_
    refine ao ?_
    refine D.F ⟨[0],[0]⟩ (xF dX (.inr rfl) (Y++[92]) c _ rfl (by simp only[List.length_append,List.length_cons,List.length_nil]; omega)) ?_
    refine ao ?_
    refine aj.dK (i+1) (by omega) ⟨rfl,rfl,rfl,by simp only[Int.natCast_add]; rfl,trivial⟩ (by rw[ur]; exact⟨rfl,trivial⟩) (by rw[ur]; exact⟨rfl,trivial⟩) rfl rfl (by show s.length-(i+1)<s.length-i; omega)
  ·rw[if_neg sU]at ev
   have ur:34::iC (s.take (i+1))=Y++[c]:=by rw[ev,fV]; simp
   clear fV ev
   have d2: ¬(c.toNat:Int)=34:=by omega
   have d3: ¬(c.toNat:Int)=92:=by omega
   (have al:=d1;have z2:=d2;have z3:=d3;refine ji ?_;clear al z2 z3)
   refine D.F ⟨[0],[0]⟩ (xF dX (.inr rfl) Y c _ rfl (by omega)) ?_
   refine ao ?_
   refine aj.dK (i+1) (by omega) ⟨rfl,rfl,rfl,by simp only[Int.natCast_add]; rfl,trivial⟩ (by rw[ur]; exact⟨rfl,trivial⟩) (by rw[ur]; exact⟨rfl,trivial⟩) rfl rfl (by show s.length-(i+1)<s.length-i; omega)
 |none=>
  have cM:=List.getElem?_eq_none_iff.1 af
  have bE:i=s.length:=by omega
  subst bE
  have d1: ¬(s.length:Int)<(s.length:Int):=by omega
  rw[List.take_length]at Eo ⊢
  (have al:=d1;refine bQ ?_;clear al)
  refine D.F ⟨[0],[0]⟩ (xF dX (.inr rfl) (34::iC s) 34 34 rfl (by simp only[List.length_cons]; omega)) ?_
  refine ao ?_
  refine D.F ⟨[0],[0]⟩ (t129 (T:=180) (A:= .ptr 0 0) (cs:=[]) trivial (34::iC s++[34]) (by simp)) ?_
  refine ao ?_
  exact D.rx
end
section
attribute [local go_sem] ad.ct ad.b9 ad.de ac.ct ac.b9 ac.de cj eN fZ gJ dp of_flat cb.row dG
theorem D.wu {dD:Program}{anns:List I}{l:List bP}{env:Env}{c c2:a1}{K:Env→a1→Prop}{Rp:I→a1→Prop}{f:FuncId}{args:List aK}{x:aK}{dz cap:List I}{v bT:I}{d:Nat}(s:bt){gd bl1:fe}{gn tl1:fp}{n q:Nat}(aW:c9 dD f=true) (h:bz dD f dz (a1.of n q gd gn) (fJ v bl1 tl1)) (aC:ae dD anns l ((d,bT)::env) c2 K Rp)
  (ab:bp env x= .fn f cap:=by simp (disch:=omega) only[go_sem,simprocAttr]<;>with_reducible rfl)
  (ah:(nodupB s.b&&nodupB s.t&&s.b.all (fun x=>Nat.blt x c.b7)&&s.t.all (fun x=>Nat.blt x c.bF))=true:=by simp (disch:=omega) only[go_sem,simprocAttr]<;>rfl) (a6:s.b.length=n:=by rfl) (aO:s.t.length=q:=by rfl) (hb:(dr n q dz&&(dP n q gd&&dV n q gn))=true:=by simp (disch:=omega) only[go_sem,simprocAttr]<;>rfl) (J:(dP n q bl1&&(dV n q tl1&&v.cR n q))=true:=by simp (disch:=omega) only[go_sem,simprocAttr]<;>rfl)
  (dX:lX c.H.aU s gd:=by repeat first|exact trivial|refine⟨rfl,?_⟩) (c4:nJ c.H.tok s gn:=by repeat first|exact trivial|refine⟨rfl,?_⟩) (aP:args.map (bp env)++cap=hB s dz:=by simp (disch:=omega) only[go_sem,simprocAttr]<;>rfl) (af:v.eF s=bT:=by simp (disch:=omega) only[go_sem,simprocAttr]<;>with_reducible rfl) (hu:c.mM s bl1 tl1=c2:=by simp (disch:=omega) only[go_sem,simprocAttr]<;>with_reducible rfl):ae dD anns (⟨some d,none,.fw x args⟩::l) env c K Rp:=by
 subst af hu
 exact ae.SB rfl ab aW (bz.pM s h a6 aO ah dX c4 hb J rfl) aP aC
def hT {α:Type}(g:α→Bool):List α→Nat→Int
 |[],_=> -1
 |x::l,i=>bif g x then hT g l (i+1) else (i:Int)
theorem OG {α:Type}(g:α→Bool): ∀(l:List α) (i:Nat),0≤hT g l i↔l.all g=false
 |[],_=>by simp [hT]
 |x::l,i=>by
  simp only[hT,List.all_cons]
  have:=OG g l (i+1)
  cases h:g x with
  |true=>simpa using this
  |false=>simp
theorem vU {α:Type}(g:α→Bool) (l:List α) (i:Nat):decide (0≤hT g l i)= !(l.all g):=by
 have:=OG g l i
 cases h:l.all g with
 |true=>rw[h]at this; simpa using this
 |false=>rw[h]at this; simpa using this
theorem ad7:c9 Tryz.prog 174=true:=by kernel_rfl
theorem av8 {f:FuncId}(aW:c9 Tryz.prog f=true) (v:ad) (b:Bool) (h:Pure Tryz.prog f [.agg (ad.row v)] (.bool b)):bz Tryz.prog 174 [.agg (ad.row v),.ptr 0 0] (a1.of 1 0 [(0,174,[.fn f []])] []) (fJ (.bool (!b)) [(0,174,[.fn f []])] []):=by
 rcases v with ⟨eb,ef,ed,eg,ee,ec⟩
 simp(disch:=omega)only[go_sem,simprocAttr]at h
 refine bz.intro bN Tryz.func174 UT ?_
 unfold JH Qk
 simp(disch:=omega)only[go_sem,simprocAttr]
 refine ao ?_
 refine D.V (aW) (h) ?_
 refine ao ?_
 refine D.r ?_
 exact⟨rfl,⟨rfl,trivial⟩,trivial⟩
theorem aw5 {f:FuncId}(aW:c9 Tryz.prog f=true) (g:ad→Bool) (l:List (ad)) (aH:l.length≤1000000000000) (h: ∀v∈l,Pure Tryz.prog f [.agg (ad.row v)] (.bool (g v))):bz Tryz.prog 198 [.ay 6 (l.map ad.row),.fn 174 [.ptr 0 0]] (a1.of 1 0 [(0,174,[.fn f []])] []) (fJ (.int .i64 (hT g l 0)) [(0,174,[.fn f []])] []):=by
 refine bz.intro bN Tryz.func198 U7 ?_
 unfold JT Qy
 simp(disch:=omega)only[go_sem,simprocAttr]
 refine ao ?_
 refine aj.dd (X:=Nat) 0 (fun i=>[(0,.ay 6 (l.map ad.row)),(1,.fn 174 [.ptr 0 0]),(7,.int .i64 ((l.map ad.row).length:Int)),(8,.int .i64 (i:Int))]) (fun _=>[(0,174,[.fn f []])]) (fun _=>[]) (fun i=>i≤l.length∧hT g (l.drop i) i=hT g l 0) (fun i=>l.length-i) ⟨Nat.zero_le _,rfl⟩ ⟨rfl,rfl,rfl,rfl,trivial⟩ ⟨rfl,trivial⟩ trivial ?_
 rintro i ⟨ai,aB⟩
 try simp only at ai aB ⊢
 cases af:l[i]? with
 |some v=>
  have cK:=(List.getElem?_eq_some_iff.1 af).1
  rw[iM af]at aB
  simp only[hT]at aB
  have d1:(i:Int)<((l.map ad.row).length:Int):=by rw[List.length_map]; omega
  have e:=av8 aW v (g v) (h v (List.mem_of_getElem? af))
  generalize g v=b at e aB
  clear h
  rcases v with ⟨eb,ef,ed,eg,ee,ec⟩
  simp(disch:=omega)only[go_sem,simprocAttr]at e
  (have al:=d1;refine bQ ?_;clear al)
  refine D.wu ⟨[0],[]⟩ ad7 e ?_
  cases b
  ·refine ao ?_
   refine D.r ?_
   exact⟨by rw[←aB]; rfl,⟨rfl,trivial⟩,trivial⟩
  ·refine ao ?_
   refine aj.dK (i+1) ⟨by omega,aB⟩ ⟨rfl,rfl,rfl,by simp only[Int.natCast_add]; rfl,trivial⟩ ⟨rfl,trivial⟩ trivial rfl rfl (by show l.length-(i+1)<l.length-i; omega)
 |none=>
  have cM:=List.getElem?_eq_none_iff.1 af
  have bE:i=l.length:=by omega
  subst bE
  have d1: ¬(l.length:Int)<((l.map ad.row).length:Int):=by rw[List.length_map]; omega
  rw[List.drop_length]at aB
  (have al:=d1;refine bQ ?_;clear al)
  refine D.r ?_
  exact⟨by rw[←aB]; rfl,⟨rfl,trivial⟩,trivial⟩
theorem av7 {f:FuncId}(aW:c9 Tryz.prog f=true) (g:ad→Bool) (l:List (ad)) (aH:l.length≤1000000000000) (h: ∀v∈l,Pure Tryz.prog f [.agg (ad.row v)] (.bool (g v))):bz Tryz.prog 173 [.ay 6 (l.map ad.row),.fn 174 [.ptr 0 0]] (a1.of 1 0 [(0,174,[.fn f []])] []) (fJ (.bool (!(l.all g))) [(0,174,[.fn f []])] []):=by
 have e:=aw5 aW g l aH h
 refine bz.intro bN Tryz.func173 US ?_
 unfold JG Qj
 simp(disch:=omega)only[go_sem,simprocAttr]
 refine ao ?_
 refine D.F ⟨[0],[]⟩ (e) ?_
 refine ao ?_
 refine D.r ?_
 exact⟨by rw[←vU g l 0],⟨rfl,trivial⟩,trivial⟩
theorem Fp {f:FuncId}(aW:c9 Tryz.prog f=true) (g:ad→Bool) (l:List (ad)) (aH:l.length≤1000000000000) (h: ∀v∈l,Pure Tryz.prog f [.agg (ad.row v)] (.bool (g v))):Pure Tryz.prog 120 [.ay 6 (l.map ad.row),.fn f []] (.bool (l.all g)):=by
 have e:=av7 aW g l aH h
 refine cF bN Tryz.func120 Ub (by simp only[b3,I.flat,ad.b9,Bool.and_self]) rfl ?_
 unfold I2 PC
 simp(disch:=omega)only[go_sem,simprocAttr]
 refine ao ?_
 refine D.F ⟨[0],[]⟩ (e) ?_
 refine ao ?_
 refine D.r ?_
 exact⟨_,rfl,.av (by rw[Bool.not_not]; rfl) rfl,trivial,trivial⟩
theorem ad6:c9 Tryz.prog 170=true:=by kernel_rfl
theorem av5 {f:FuncId}(aW:c9 Tryz.prog f=true) (v:ac) (b:Bool) (h:Pure Tryz.prog f [.agg (ac.row v)] (.bool b)):bz Tryz.prog 170 [.agg (ac.row v),.ptr 0 0] (a1.of 1 0 [(0,170,[.fn f []])] []) (fJ (.bool (!b)) [(0,170,[.fn f []])] []):=by
 rcases v with ⟨k,h7,⟨eb,ef,ed,eg,ee,ec⟩,cy,hU,gD⟩
 simp(disch:=omega)only[go_sem,simprocAttr]at h
 refine bz.intro bN Tryz.func170 UQ ?_
 unfold JE Qh
 simp(disch:=omega)only[go_sem,simprocAttr]
 refine ao ?_
 refine D.V (aW) (h) ?_
 refine ao ?_
 refine D.r ?_
 exact⟨rfl,⟨rfl,trivial⟩,trivial⟩
theorem aw4 {f:FuncId}(aW:c9 Tryz.prog f=true) (g:ac→Bool) (l:List (ac)) (aH:l.length≤1000000000000) (h: ∀v∈l,Pure Tryz.prog f [.agg (ac.row v)] (.bool (g v))):bz Tryz.prog 197 [.ay 11 (l.map ac.row),.fn 170 [.ptr 0 0]] (a1.of 1 0 [(0,170,[.fn f []])] []) (fJ (.int .i64 (hT g l 0)) [(0,170,[.fn f []])] []):=by
 refine bz.intro bN Tryz.func197 U6 ?_
 unfold JS Qx
 simp(disch:=omega)only[go_sem,simprocAttr]
 refine ao ?_
 refine aj.dd (X:=Nat) 0 (fun i=>[(0,.ay 11 (l.map ac.row)),(1,.fn 170 [.ptr 0 0]),(7,.int .i64 ((l.map ac.row).length:Int)),(8,.int .i64 (i:Int))]) (fun _=>[(0,170,[.fn f []])]) (fun _=>[]) (fun i=>i≤l.length∧hT g (l.drop i) i=hT g l 0) (fun i=>l.length-i) ⟨Nat.zero_le _,rfl⟩ ⟨rfl,rfl,rfl,rfl,trivial⟩ ⟨rfl,trivial⟩ trivial ?_
 rintro i ⟨ai,aB⟩
 try simp only at ai aB ⊢
 cases af:l[i]? with
 |some v=>
  have cK:=(List.getElem?_eq_some_iff.1 af).1
  rw[iM af]at aB
  simp only[hT]at aB
  have d1:(i:Int)<((l.map ac.row).length:Int):=by rw[List.length_map]; omega
  have e:=av5 aW v (g v) (h v (List.mem_of_getElem? af))
  generalize g v=b at e aB
  clear h
  rcases v with ⟨k,h7,⟨eb,ef,ed,eg,ee,ec⟩,cy,hU,gD⟩
  simp(disch:=omega)only[go_sem,simprocAttr]at e
  (have al:=d1;refine bQ ?_;clear al)
  refine D.wu ⟨[0],[]⟩ ad6 e ?_
  cases b
  ·refine ao ?_
   refine D.r ?_
   exact⟨by rw[←aB]; rfl,⟨rfl,trivial⟩,trivial⟩
  ·refine ao ?_
   refine aj.dK (i+1) ⟨by omega,aB⟩ ⟨rfl,rfl,rfl,by simp only[Int.natCast_add]; rfl,trivial⟩ ⟨rfl,trivial⟩ trivial rfl rfl (by show l.length-(i+1)<l.length-i; omega)
 |none=>
  have cM:=List.getElem?_eq_none_iff.1 af
  have bE:i=l.length:=by omega
  subst bE
  have d1: ¬(l.length:Int)<((l.map ac.row).length:Int):=by rw[List.length_map]; omega
  rw[List.drop_length]at aB
  (have al:=d1;refine bQ ?_;clear al)
  refine D.r ?_
  exact⟨by rw[←aB]; rfl,⟨rfl,trivial⟩,trivial⟩
theorem av3 {f:FuncId}(aW:c9 Tryz.prog f=true) (g:ac→Bool) (l:List (ac)) (aH:l.length≤1000000000000) (h: ∀v∈l,Pure Tryz.prog f [.agg (ac.row v)] (.bool (g v))):bz Tryz.prog 169 [.ay 11 (l.map ac.row),.fn 170 [.ptr 0 0]] (a1.of 1 0 [(0,170,[.fn f []])] []) (fJ (.bool (!(l.all g))) [(0,170,[.fn f []])] []):=by
 have e:=aw4 aW g l aH h
 refine bz.intro bN Tryz.func169 UO ?_
 unfold JC Qf
 simp(disch:=omega)only[go_sem,simprocAttr]
 refine ao ?_
 refine D.F ⟨[0],[]⟩ (e) ?_
 refine ao ?_
 refine D.r ?_
 exact⟨by rw[←vU g l 0],⟨rfl,trivial⟩,trivial⟩
theorem B3 {f:FuncId}(aW:c9 Tryz.prog f=true) (g:ac→Bool) (l:List (ac)) (aH:l.length≤1000000000000) (h: ∀v∈l,Pure Tryz.prog f [.agg (ac.row v)] (.bool (g v))):Pure Tryz.prog 113 [.ay 11 (l.map ac.row),.fn f []] (.bool (l.all g)):=by
 have e:=av3 aW g l aH h
 refine cF bN Tryz.func113 T4 (by simp only[b3,I.flat,ac.b9,Bool.and_self]) rfl ?_
 unfold IV Pv
 simp(disch:=omega)only[go_sem,simprocAttr]
 refine ao ?_
 refine D.F ⟨[0],[]⟩ (e) ?_
 refine ao ?_
 refine D.r ?_
 exact⟨_,rfl,.av (by rw[Bool.not_not]; rfl) rfl,trivial,trivial⟩
theorem ac9:c9 Tryz.prog 104=true:=by kernel_rfl
theorem as2 {f:FuncId}(aW:c9 Tryz.prog f=true) (v:cb) (b:Bool) (h:Pure Tryz.prog f [.agg (cb.row v)] (.bool b)):bz Tryz.prog 104 [.agg (cb.row v),.ptr 0 0] (a1.of 1 0 [(0,113,[.fn f []])] []) (fJ (.bool (!b)) [(0,113,[.fn f []])] []):=by
 simp(disch:=omega)only[go_sem,simprocAttr]at h
 refine bz.intro bN Tryz.func104 TU ?_
 unfold IK Pl
 simp(disch:=omega)only[go_sem,simprocAttr]
 refine ao ?_
 refine D.V (aW) (h) ?_
 refine ao ?_
 refine D.r ?_
 exact⟨rfl,⟨rfl,trivial⟩,trivial⟩
theorem au6 {f:FuncId}(aW:c9 Tryz.prog f=true) (g:cb→Bool) (l:List (cb)) (aH:l.length≤1000000000000) (h: ∀v∈l,Pure Tryz.prog f [.agg (cb.row v)] (.bool (g v))):bz Tryz.prog 160 [.ay 7 (l.map cb.row),.fn 104 [.ptr 0 0]] (a1.of 1 0 [(0,113,[.fn f []])] []) (fJ (.int .i64 (hT g l 0)) [(0,113,[.fn f []])] []):=by
 refine bz.intro bN Tryz.func160 UH ?_
 unfold Jv P8
 simp(disch:=omega)only[go_sem,simprocAttr]
 refine ao ?_
 refine aj.dd (X:=Nat) 0 (fun i=>[(0,.ay 7 (l.map cb.row)),(1,.fn 104 [.ptr 0 0]),(7,.int .i64 ((l.map cb.row).length:Int)),(8,.int .i64 (i:Int))]) (fun _=>[(0,113,[.fn f []])]) (fun _=>[]) (fun i=>i≤l.length∧hT g (l.drop i) i=hT g l 0) (fun i=>l.length-i) ⟨Nat.zero_le _,rfl⟩ ⟨rfl,rfl,rfl,rfl,trivial⟩ ⟨rfl,trivial⟩ trivial ?_
 rintro i ⟨ai,aB⟩
 try simp only at ai aB ⊢
 cases af:l[i]? with
 |some v=>
  have cK:=(List.getElem?_eq_some_iff.1 af).1
  rw[iM af]at aB
  simp only[hT]at aB
  have d1:(i:Int)<((l.map cb.row).length:Int):=by rw[List.length_map]; omega
  have e:=as2 aW v (g v) (h v (List.mem_of_getElem? af))
  generalize g v=b at e aB
  clear h
  simp(disch:=omega)only[go_sem,simprocAttr]at e
  (have al:=d1;refine bQ ?_;clear al)
  refine D.wu ⟨[0],[]⟩ ac9 e ?_
  cases b
  ·refine ao ?_
   refine D.r ?_
   exact⟨by rw[←aB]; rfl,⟨rfl,trivial⟩,trivial⟩
  ·refine ao ?_
   refine aj.dK (i+1) ⟨by omega,aB⟩ ⟨rfl,rfl,rfl,by simp only[Int.natCast_add]; rfl,trivial⟩ ⟨rfl,trivial⟩ trivial rfl rfl (by show l.length-(i+1)<l.length-i; omega)
 |none=>
  have cM:=List.getElem?_eq_none_iff.1 af
  have bE:i=l.length:=by omega
  subst bE
  have d1: ¬(l.length:Int)<((l.map cb.row).length:Int):=by rw[List.length_map]; omega
  rw[List.drop_length]at aB
  (have al:=d1;refine bQ ?_;clear al)
  refine D.r ?_
  exact⟨by rw[←aB]; rfl,⟨rfl,trivial⟩,trivial⟩
theorem as1 {f:FuncId}(aW:c9 Tryz.prog f=true) (g:cb→Bool) (l:List (cb)) (aH:l.length≤1000000000000) (h: ∀v∈l,Pure Tryz.prog f [.agg (cb.row v)] (.bool (g v))):bz Tryz.prog 103 [.ay 7 (l.map cb.row),.fn 104 [.ptr 0 0]] (a1.of 1 0 [(0,113,[.fn f []])] []) (fJ (.bool (!(l.all g))) [(0,113,[.fn f []])] []):=by
 have e:=au6 aW g l aH h
 refine bz.intro bN Tryz.func103 TT ?_
 unfold IJ Pk
 simp(disch:=omega)only[go_sem,simprocAttr]
 refine ao ?_
 refine D.F ⟨[0],[]⟩ (e) ?_
 refine ao ?_
 refine D.r ?_
 exact⟨by rw[←vU g l 0],⟨rfl,trivial⟩,trivial⟩
theorem ax1 {f:FuncId}(aW:c9 Tryz.prog f=true) (g:cb→Bool) (l:List (cb)) (aH:l.length≤1000000000000) (h: ∀v∈l,Pure Tryz.prog f [.agg (cb.row v)] (.bool (g v))):Pure Tryz.prog 46 [.ay 7 (l.map cb.row),.fn f []] (.bool (l.all g)):=by
 have e:=as1 aW g l aH h
 refine cF bN Tryz.func46 Vl (by simp only[b3,I.flat,dG,Bool.and_self]) rfl ?_
 unfold AN QM
 simp(disch:=omega)only[go_sem,simprocAttr]
 refine ao ?_
 refine D.F ⟨[0],[]⟩ (e) ?_
 refine ao ?_
 refine D.r ?_
 exact⟨_,rfl,.av (by rw[Bool.not_not]; rfl) rfl,trivial,trivial⟩
theorem ad0:c9 Tryz.prog 108=true:=by kernel_rfl
theorem as4 {f:FuncId}(aW:c9 Tryz.prog f=true) (v:cd) (b:Bool) (h:Pure Tryz.prog f [.agg (cd.row v)] (.bool b)):bz Tryz.prog 108 [.agg (cd.row v),.ptr 0 0] (a1.of 1 0 [(0,115,[.fn f []])] []) (fJ (.bool (!b)) [(0,115,[.fn f []])] []):=by
 simp(disch:=omega)only[go_sem,simprocAttr]at h
 refine bz.intro bN Tryz.func108 TY ?_
 unfold IP Pp
 simp(disch:=omega)only[go_sem,simprocAttr]
 refine ao ?_
 refine D.V (aW) (h) ?_
 refine ao ?_
 refine D.r ?_
 exact⟨rfl,⟨rfl,trivial⟩,trivial⟩
theorem au7 {f:FuncId}(aW:c9 Tryz.prog f=true) (g:cd→Bool) (l:List (cd)) (aH:l.length≤1000000000000) (h: ∀v∈l,Pure Tryz.prog f [.agg (cd.row v)] (.bool (g v))):bz Tryz.prog 163 [.ay 4 (l.map cd.row),.fn 108 [.ptr 0 0]] (a1.of 1 0 [(0,115,[.fn f []])] []) (fJ (.int .i64 (hT g l 0)) [(0,115,[.fn f []])] []):=by
 refine bz.intro bN Tryz.func163 UK ?_
 unfold Jy Qb
 simp(disch:=omega)only[go_sem,simprocAttr]
 refine ao ?_
 refine aj.dd (X:=Nat) 0 (fun i=>[(0,.ay 4 (l.map cd.row)),(1,.fn 108 [.ptr 0 0]),(7,.int .i64 ((l.map cd.row).length:Int)),(8,.int .i64 (i:Int))]) (fun _=>[(0,115,[.fn f []])]) (fun _=>[]) (fun i=>i≤l.length∧hT g (l.drop i) i=hT g l 0) (fun i=>l.length-i) ⟨Nat.zero_le _,rfl⟩ ⟨rfl,rfl,rfl,rfl,trivial⟩ ⟨rfl,trivial⟩ trivial ?_
 rintro i ⟨ai,aB⟩
 try simp only at ai aB ⊢
 cases af:l[i]? with
 |some v=>
  have cK:=(List.getElem?_eq_some_iff.1 af).1
  rw[iM af]at aB
  simp only[hT]at aB
  have d1:(i:Int)<((l.map cd.row).length:Int):=by rw[List.length_map]; omega
  have e:=as4 aW v (g v) (h v (List.mem_of_getElem? af))
  generalize g v=b at e aB
  clear h
  simp(disch:=omega)only[go_sem,simprocAttr]at e
  (have al:=d1;refine bQ ?_;clear al)
  refine D.wu ⟨[0],[]⟩ ad0 e ?_
  cases b
  ·refine ao ?_
   refine D.r ?_
   exact⟨by rw[←aB]; rfl,⟨rfl,trivial⟩,trivial⟩
  ·refine ao ?_
   refine aj.dK (i+1) ⟨by omega,aB⟩ ⟨rfl,rfl,rfl,by simp only[Int.natCast_add]; rfl,trivial⟩ ⟨rfl,trivial⟩ trivial rfl rfl (by show l.length-(i+1)<l.length-i; omega)
 |none=>
  have cM:=List.getElem?_eq_none_iff.1 af
  have bE:i=l.length:=by omega
  subst bE
  have d1: ¬(l.length:Int)<((l.map cd.row).length:Int):=by rw[List.length_map]; omega
  rw[List.drop_length]at aB
  (have al:=d1;refine bQ ?_;clear al)
  refine D.r ?_
  exact⟨by rw[←aB]; rfl,⟨rfl,trivial⟩,trivial⟩
theorem as3 {f:FuncId}(aW:c9 Tryz.prog f=true) (g:cd→Bool) (l:List (cd)) (aH:l.length≤1000000000000) (h: ∀v∈l,Pure Tryz.prog f [.agg (cd.row v)] (.bool (g v))):bz Tryz.prog 107 [.ay 4 (l.map cd.row),.fn 108 [.ptr 0 0]] (a1.of 1 0 [(0,115,[.fn f []])] []) (fJ (.bool (!(l.all g))) [(0,115,[.fn f []])] []):=by
 have e:=au7 aW g l aH h
 refine bz.intro bN Tryz.func107 TX ?_
 unfold IN Po
 simp(disch:=omega)only[go_sem,simprocAttr]
 refine ao ?_
 refine D.F ⟨[0],[]⟩ (e) ?_
 refine ao ?_
 refine D.r ?_
 exact⟨by rw[←vU g l 0],⟨rfl,trivial⟩,trivial⟩
theorem ax3 {f:FuncId}(aW:c9 Tryz.prog f=true) (g:cd→Bool) (l:List (cd)) (aH:l.length≤1000000000000) (h: ∀v∈l,Pure Tryz.prog f [.agg (cd.row v)] (.bool (g v))):Pure Tryz.prog 48 [.ay 4 (l.map cd.row),.fn f []] (.bool (l.all g)):=by
 have e:=as3 aW g l aH h
 refine cF bN Tryz.func48 Vn (by simp only[b3,I.flat,dp,Bool.and_self]) rfl ?_
 unfold wN QO
 simp(disch:=omega)only[go_sem,simprocAttr]
 refine ao ?_
 refine D.F ⟨[0],[]⟩ (e) ?_
 refine ao ?_
 refine D.r ?_
 exact⟨_,rfl,.av (by rw[Bool.not_not]; rfl) rfl,trivial,trivial⟩
theorem ad2:c9 Tryz.prog 116=true:=by kernel_rfl
theorem as9 {f:FuncId}(aW:c9 Tryz.prog f=true) (v:ca) (b:Bool) (h:Pure Tryz.prog f [.agg (ca.row v)] (.bool b)):bz Tryz.prog 116 [.agg (ca.row v),.ptr 0 0] (a1.of 1 0 [(0,117,[.fn f []])] []) (fJ (.bool (!b)) [(0,117,[.fn f []])] []):=by
 simp(disch:=omega)only[go_sem,simprocAttr]at h
 refine bz.intro bN Tryz.func116 T7 ?_
 unfold IY Py
 simp(disch:=omega)only[go_sem,simprocAttr]
 refine ao ?_
 refine D.V (aW) (h) ?_
 refine ao ?_
 refine D.r ?_
 exact⟨rfl,⟨rfl,trivial⟩,trivial⟩
theorem av6 {f:FuncId}(aW:c9 Tryz.prog f=true) (g:ca→Bool) (l:List (ca)) (aH:l.length≤1000000000000) (h: ∀v∈l,Pure Tryz.prog f [.agg (ca.row v)] (.bool (g v))):bz Tryz.prog 171 [.ay 4 (l.map ca.row),.fn 116 [.ptr 0 0]] (a1.of 1 0 [(0,117,[.fn f []])] []) (fJ (.int .i64 (hT g l 0)) [(0,117,[.fn f []])] []):=by
 refine bz.intro bN Tryz.func171 UR ?_
 unfold JF Qi
 simp(disch:=omega)only[go_sem,simprocAttr]
 refine ao ?_
 refine aj.dd (X:=Nat) 0 (fun i=>[(0,.ay 4 (l.map ca.row)),(1,.fn 116 [.ptr 0 0]),(7,.int .i64 ((l.map ca.row).length:Int)),(8,.int .i64 (i:Int))]) (fun _=>[(0,117,[.fn f []])]) (fun _=>[]) (fun i=>i≤l.length∧hT g (l.drop i) i=hT g l 0) (fun i=>l.length-i) ⟨Nat.zero_le _,rfl⟩ ⟨rfl,rfl,rfl,rfl,trivial⟩ ⟨rfl,trivial⟩ trivial ?_
 rintro i ⟨ai,aB⟩
 try simp only at ai aB ⊢
 cases af:l[i]? with
 |some v=>
  have cK:=(List.getElem?_eq_some_iff.1 af).1
  rw[iM af]at aB
  simp only[hT]at aB
  have d1:(i:Int)<((l.map ca.row).length:Int):=by rw[List.length_map]; omega
  have e:=as9 aW v (g v) (h v (List.mem_of_getElem? af))
  generalize g v=b at e aB
  clear h
  simp(disch:=omega)only[go_sem,simprocAttr]at e
  (have al:=d1;refine bQ ?_;clear al)
  refine D.wu ⟨[0],[]⟩ ad2 e ?_
  cases b
  ·refine ao ?_
   refine D.r ?_
   exact⟨by rw[←aB]; rfl,⟨rfl,trivial⟩,trivial⟩
  ·refine ao ?_
   refine aj.dK (i+1) ⟨by omega,aB⟩ ⟨rfl,rfl,rfl,by simp only[Int.natCast_add]; rfl,trivial⟩ ⟨rfl,trivial⟩ trivial rfl rfl (by show l.length-(i+1)<l.length-i; omega)
 |none=>
  have cM:=List.getElem?_eq_none_iff.1 af
  have bE:i=l.length:=by omega
  subst bE
  have d1: ¬(l.length:Int)<((l.map ca.row).length:Int):=by rw[List.length_map]; omega
  rw[List.drop_length]at aB
  (have al:=d1;refine bQ ?_;clear al)
  refine D.r ?_
  exact⟨by rw[←aB]; rfl,⟨rfl,trivial⟩,trivial⟩
theorem as8 {f:FuncId}(aW:c9 Tryz.prog f=true) (g:ca→Bool) (l:List (ca)) (aH:l.length≤1000000000000) (h: ∀v∈l,Pure Tryz.prog f [.agg (ca.row v)] (.bool (g v))):bz Tryz.prog 115 [.ay 4 (l.map ca.row),.fn 116 [.ptr 0 0]] (a1.of 1 0 [(0,117,[.fn f []])] []) (fJ (.bool (!(l.all g))) [(0,117,[.fn f []])] []):=by
 have e:=av6 aW g l aH h
 refine bz.intro bN Tryz.func115 T6 ?_
 unfold IX Px
 simp(disch:=omega)only[go_sem,simprocAttr]
 refine ao ?_
 refine D.F ⟨[0],[]⟩ (e) ?_
 refine ao ?_
 refine D.r ?_
 exact⟨by rw[←vU g l 0],⟨rfl,trivial⟩,trivial⟩
theorem ax6 {f:FuncId}(aW:c9 Tryz.prog f=true) (g:ca→Bool) (l:List (ca)) (aH:l.length≤1000000000000) (h: ∀v∈l,Pure Tryz.prog f [.agg (ca.row v)] (.bool (g v))):Pure Tryz.prog 50 [.ay 4 (l.map ca.row),.fn f []] (.bool (l.all g)):=by
 have e:=as8 aW g l aH h
 refine cF bN Tryz.func50 Vp (by simp only[b3,I.flat,of_flat,Bool.and_self]) rfl ?_
 unfold AO QQ
 simp(disch:=omega)only[go_sem,simprocAttr]
 refine ao ?_
 refine D.F ⟨[0],[]⟩ (e) ?_
 refine ao ?_
 refine D.r ?_
 exact⟨_,rfl,.av (by rw[Bool.not_not]; rfl) rfl,trivial,trivial⟩
theorem ad5:c9 Tryz.prog 168=true:=by kernel_rfl
theorem av2 {f:FuncId}(aW:c9 Tryz.prog f=true) (v:List UInt8) (b:Bool) (h:Pure Tryz.prog f [.str v] (.bool b)):bz Tryz.prog 168 [.str v,.ptr 0 0] (a1.of 1 0 [(0,41,[.fn f []])] []) (fJ (.bool (!b)) [(0,41,[.fn f []])] []):=by
 refine bz.intro bN Tryz.func168 UN ?_
 unfold JB Qe
 simp(disch:=omega)only[go_sem,simprocAttr]
 refine ao ?_
 refine D.V (aW) (h) ?_
 refine ao ?_
 refine D.r ?_
 exact⟨rfl,⟨rfl,trivial⟩,trivial⟩
theorem aw2 {f:FuncId}(aW:c9 Tryz.prog f=true) (g:List UInt8→Bool) (l:List (List UInt8)) (aH:l.length≤1000000000000) (h: ∀v∈l,Pure Tryz.prog f [.str v] (.bool (g v))):bz Tryz.prog 195 [.ay 1 (l.map cj),.fn 168 [.ptr 0 0]] (a1.of 1 0 [(0,41,[.fn f []])] []) (fJ (.int .i64 (hT g l 0)) [(0,41,[.fn f []])] []):=by
 refine bz.intro bN Tryz.func195 HI ?_
 unfold DC FJ
 simp(disch:=omega)only[go_sem,simprocAttr]
 refine ao ?_
 refine aj.dd (X:=Nat) 0 (fun i=>[(0,.ay 1 (l.map cj)),(1,.fn 168 [.ptr 0 0]),(7,.int .i64 ((l.map cj).length:Int)),(8,.int .i64 (i:Int))]) (fun _=>[(0,41,[.fn f []])]) (fun _=>[]) (fun i=>i≤l.length∧hT g (l.drop i) i=hT g l 0) (fun i=>l.length-i) ⟨Nat.zero_le _,rfl⟩ ⟨rfl,rfl,rfl,rfl,trivial⟩ ⟨rfl,trivial⟩ trivial ?_
 rintro i ⟨ai,aB⟩
 try simp only at ai aB ⊢
 cases af:l[i]? with
 |some v=>
  have cK:=(List.getElem?_eq_some_iff.1 af).1
  rw[iM af]at aB
  simp only[hT]at aB
  have d1:(i:Int)<((l.map cj).length:Int):=by rw[List.length_map]; omega
  have e:=av2 aW v (g v) (h v (List.mem_of_getElem? af))
  generalize g v=b at e aB
  clear h
  (have al:=d1;refine bQ ?_;clear al)
  refine D.wu ⟨[0],[]⟩ ad5 e ?_
  cases b
  ·refine ao ?_
   refine D.r ?_
   exact⟨by rw[←aB]; rfl,⟨rfl,trivial⟩,trivial⟩
  ·refine ao ?_
   refine aj.dK (i+1) ⟨by omega,aB⟩ ⟨rfl,rfl,rfl,by simp only[Int.natCast_add]; rfl,trivial⟩ ⟨rfl,trivial⟩ trivial rfl rfl (by show l.length-(i+1)<l.length-i; omega)
 |none=>
  have cM:=List.getElem?_eq_none_iff.1 af
  have bE:i=l.length:=by omega
  subst bE
  have d1: ¬(l.length:Int)<((l.map cj).length:Int):=by rw[List.length_map]; omega
  rw[List.drop_length]at aB
  (have al:=d1;refine bQ ?_;clear al)
  refine D.r ?_
  exact⟨by rw[←aB]; rfl,⟨rfl,trivial⟩,trivial⟩
theorem au9 {f:FuncId}(aW:c9 Tryz.prog f=true) (g:List UInt8→Bool) (l:List (List UInt8)) (aH:l.length≤1000000000000) (h: ∀v∈l,Pure Tryz.prog f [.str v] (.bool (g v))):bz Tryz.prog 165 [.ay 1 (l.map cj),.fn 168 [.ptr 0 0]] (a1.of 1 0 [(0,41,[.fn f []])] []) (fJ (.bool (!(l.all g))) [(0,41,[.fn f []])] []):=by
 have e:=aw2 aW g l aH h
 refine bz.intro bN Tryz.func165 HH ?_
 unfold DB FI
 simp(disch:=omega)only[go_sem,simprocAttr]
 refine ao ?_
 refine D.F ⟨[0],[]⟩ (e) ?_
 refine ao ?_
 refine D.r ?_
 exact⟨by rw[←vU g l 0],⟨rfl,trivial⟩,trivial⟩
theorem as7 {f:FuncId}(aW:c9 Tryz.prog f=true) (g:List UInt8→Bool) (l:List (List UInt8)) (aH:l.length≤1000000000000) (h: ∀v∈l,Pure Tryz.prog f [.str v] (.bool (g v))):Pure Tryz.prog 112 [.ay 1 (l.map cj),.fn f []] (.bool (l.all g)):=by
 have e:=au9 aW g l aH h
 refine cF bN Tryz.func112 T3 (by simp only[b3,I.flat,eN,Bool.and_self]) rfl ?_
 unfold IU Pu
 simp(disch:=omega)only[go_sem,simprocAttr]
 refine ao ?_
 refine D.F ⟨[0],[]⟩ (e) ?_
 refine ao ?_
 refine D.r ?_
 exact⟨_,rfl,.av (by rw[Bool.not_not]; rfl) rfl,trivial,trivial⟩
end
section
attribute [local go_sem] ad.ct ad.b9 ad.de ac.ct ac.b9 ac.de cj eN fZ gJ dp of_flat cb.row dG
def lM (s:a7):Bool:=decide (s.length≤40)&&s.all eo
def iX (n:Int):Bool:=decide (-999999≤n)&&decide (n≤999999)
theorem Fk (n:Int):Pure Tryz.prog 105 [.int .i64 n] (.bool (iX n)):=by
  refine cF bN Tryz.func105 TV rfl rfl ?_
  unfold IL Pm
  simp(disch:=omega)only[go_sem,simprocAttr]
  (repeat' first|refine D.S ?_|refine D.cN true true ?_|refine ae.nil ?_|refine aj.b6 ?_|refine D.W ?_|refine D.Z ?_|refine D.G ?_ ?_|refine D.X ‹_› ?_|refine D.eh ‹_› ?_|refine D.ei ‹_› ?_|intro h|refine D.C ?_ ?_)
  all_goals (refine D.R ?_; refine⟨_,rfl,.av ?_ rfl,trivial,trivial⟩; simp_all [iX,I.av]<;>(try omega))
theorem ON (s:a7):Pure Tryz.prog 106 [.str s] (.bool (lM s)):=by
  refine cF bN Tryz.func106 TW rfl rfl ?_
  unfold IM Pn
  simp(disch:=omega)only[go_sem,simprocAttr]
  (repeat' first|refine D.S ?_|refine D.cN true true ?_|refine ae.nil ?_|refine aj.b6 ?_|refine D.W ?_|refine D.Z ?_|refine D.G ?_ ?_|refine D.X ‹_› ?_|refine D.eh ‹_› ?_|refine D.ei ‹_› ?_|intro h|refine D.C ?_ ?_)
  ·refine D.P (al4 s) ?_
   refine ao ?_
   refine D.r ?_
   refine⟨_,rfl,.av ?_ rfl,trivial,trivial⟩
   simp only[decide_eq_true_eq]at h
   have aa:s.length≤40:=by omega
   simp [lM,aa,I.av]
  ·refine D.r ?_
   refine⟨_,rfl,.av ?_ rfl,trivial,trivial⟩
   simp only[decide_eq_false_iff_not]at h
   have aa: ¬s.length≤40:=by omega
   simp [lM,aa,I.av]
def fL (k:Int) (o m t:a7) (n:Int) (kk:Nat):Bool:=
  if k=1 then decide (0≤n)&&(decide (n≤1000)&&(decide (kk=0)&&(decide (o=[])&&(decide (m=[])&&decide (t=[])))))
  else if k=2 then lM t&&(decide (kk=0)&&(decide (o=[])&&(decide (m=[])&&decide (n=0))))
  else if k=3 then db m&&(decide (kk=0)&&(decide (o=[])&&(decide (t=[])&&decide (n=0))))
  else if k=4 then decide (kk=1)&&(decide (o=[])&&(decide (m=[])&&(decide (t=[])&&decide (n=0))))
  else if k=5 then (decide (o=[45])||decide (o=[33]))&&(decide (kk=1)&&(decide (m=[])&&(decide (t=[])&&decide (n=0))))
  else if k=6 then !(decide (cV o=0))&&(decide (kk=2)&&(decide (m=[])&&(decide (t=[])&&decide (n=0))))
  else false
mutual
def dB:ad→Bool
  | .mk k o m t n l=>fL k o m t n l.length&&mY l
def mY:List ad→Bool
  |[]=>true
  |x::l=>dB x&&mY l
end
theorem DV: ∀l,mY l=l.all dB
  |[]=>rfl
  |x::l=>by simp only[mY,List.all_cons,DV l]
theorem MA:c9 Tryz.prog 121=true:=by kernel_rfl
theorem Fq: ∀(N:Nat) (x:ad),x.bI≤N→N≤1000000000→Pure Tryz.prog 121 [.agg x.row] (.bool (dB x))
  |0,.mk k o m t n l,h,_=>by simp only[ad.bI]at h; omega
  |N+1,.mk k o m t n l,bW,rO=>by
   simp only[ad.bI]at bW
   have j9:l.length≤1000000000:=by have:=ad.hZ l; omega
   have ar:=Fp MA dB l (by omega) fun v af=>by
     obtain⟨i,ai⟩:=List.getElem?_of_mem af
     exact Fq N v (by have:=ad.lh ai; omega) (by omega)
   simp only[dB,DV]
   generalize l.all dB=ue at ar
   have z0:((l.map ad.row).length:Int)=(l.length:Int):=by rw[List.length_map]
   refine cF bN Tryz.func121 Uc (by simp only[b3,I.flat,ad.de,Bool.and_self]) rfl ?_
   unfold I3 PD
   simp(disch:=omega)only[go_sem,simprocAttr]
   by_cases J:k=1
   ·subst J
    (repeat' first|(apply ae.s rfl;(·simp(disch:=omega)only[go_sem,simprocAttr,z0]<;>with_reducible rfl))|(apply aj.s true true;(·simp(disch:=omega)only[go_sem,simprocAttr,z0]<;>with_reducible rfl))|apply ae.nil|(refine aj.b6 ?_)|(apply ae.eX;(·simp(disch:=omega)only[go_sem,simprocAttr,z0]<;>with_reducible rfl))|(apply ae.eY;(·rfl);(·simp(disch:=omega)only[go_sem,simprocAttr,z0]<;>with_reducible rfl))|(apply ae.gs;(·simp(disch:=omega)only[go_sem,simprocAttr,z0]<;>with_reducible rfl))|((first|apply ae.e3|apply ae.e4|apply ae.e5);(·simp(disch:=omega)only[go_sem,simprocAttr,z0]<;>with_reducible rfl);(·simp(disch:=omega)only[go_sem,simprocAttr,z0]<;>with_reducible rfl);(·assumption);(·omega))|intro h|(apply aj.cond;(·simp(disch:=omega)only[go_sem,simprocAttr,z0]<;>with_reducible rfl)))
    all_goals first
      |(refine D.R ?_
        refine⟨_,rfl,.av ?_ rfl,trivial,trivial⟩
        first
          |(simp_all [fL,I.av]; done)
          |(simp_all [fL,I.av]; intros; omega))
      |skip
    refine D.P (ar) ?_
    refine ao ?_
    refine D.r ?_
    refine⟨_,rfl,.av ?_ rfl,trivial,trivial⟩
    first
      |(simp_all [fL,I.av]; done)
      |(simp_all [fL,I.av]; intros; omega)
   by_cases aa:k=2
   ·subst aa
    (have al:=z0;refine bQ ?_;clear al)
    refine D.P (ON t) ?_
    cases aO:lM t
    all_goals
      (repeat' first|(apply ae.s rfl;(·simp(disch:=omega)only[go_sem,simprocAttr,z0]<;>with_reducible rfl))|(apply aj.s true true;(·simp(disch:=omega)only[go_sem,simprocAttr,z0]<;>with_reducible rfl))|apply ae.nil|(refine aj.b6 ?_)|(apply ae.eX;(·simp(disch:=omega)only[go_sem,simprocAttr,z0]<;>with_reducible rfl))|(apply ae.eY;(·rfl);(·simp(disch:=omega)only[go_sem,simprocAttr,z0]<;>with_reducible rfl))|(apply ae.gs;(·simp(disch:=omega)only[go_sem,simprocAttr,z0]<;>with_reducible rfl))|((first|apply ae.e3|apply ae.e4|apply ae.e5);(·simp(disch:=omega)only[go_sem,simprocAttr,z0]<;>with_reducible rfl);(·simp(disch:=omega)only[go_sem,simprocAttr,z0]<;>with_reducible rfl);(·assumption);(·omega))|intro h|(apply aj.cond;(·simp(disch:=omega)only[go_sem,simprocAttr,z0]<;>with_reducible rfl)))
    all_goals first
      |(refine D.R ?_
        refine⟨_,rfl,.av ?_ rfl,trivial,trivial⟩
        first
          |(simp_all [fL,I.av]; done)
          |(simp_all [fL,I.av]; intros; omega))
      |skip
    refine D.P (ar) ?_
    refine ao ?_
    refine D.r ?_
    refine⟨_,rfl,.av ?_ rfl,trivial,trivial⟩
    first
      |(simp_all [fL,I.av]; done)
      |(simp_all [fL,I.av]; intros; omega)
   by_cases au:k=3
   ·subst au
    (have al:=z0;refine bQ ?_;clear al)
    refine D.P (qV m) ?_
    cases aO:db m
    all_goals
      (repeat' first|(apply ae.s rfl;(·simp(disch:=omega)only[go_sem,simprocAttr,z0]<;>with_reducible rfl))|(apply aj.s true true;(·simp(disch:=omega)only[go_sem,simprocAttr,z0]<;>with_reducible rfl))|apply ae.nil|(refine aj.b6 ?_)|(apply ae.eX;(·simp(disch:=omega)only[go_sem,simprocAttr,z0]<;>with_reducible rfl))|(apply ae.eY;(·rfl);(·simp(disch:=omega)only[go_sem,simprocAttr,z0]<;>with_reducible rfl))|(apply ae.gs;(·simp(disch:=omega)only[go_sem,simprocAttr,z0]<;>with_reducible rfl))|((first|apply ae.e3|apply ae.e4|apply ae.e5);(·simp(disch:=omega)only[go_sem,simprocAttr,z0]<;>with_reducible rfl);(·simp(disch:=omega)only[go_sem,simprocAttr,z0]<;>with_reducible rfl);(·assumption);(·omega))|intro h|(apply aj.cond;(·simp(disch:=omega)only[go_sem,simprocAttr,z0]<;>with_reducible rfl)))
    all_goals first
      |(refine D.R ?_
        refine⟨_,rfl,.av ?_ rfl,trivial,trivial⟩
        first
          |(simp_all [fL,I.av]; done)
          |(simp_all [fL,I.av]; intros; omega))
      |skip
    refine D.P (ar) ?_
    refine ao ?_
    refine D.r ?_
    refine⟨_,rfl,.av ?_ rfl,trivial,trivial⟩
    first
      |(simp_all [fL,I.av]; done)
      |(simp_all [fL,I.av]; intros; omega)
   by_cases bn:k=4
   ·subst bn
    (repeat' first|(apply ae.s rfl;(·simp(disch:=omega)only[go_sem,simprocAttr,z0]<;>with_reducible rfl))|(apply aj.s true true;(·simp(disch:=omega)only[go_sem,simprocAttr,z0]<;>with_reducible rfl))|apply ae.nil|(refine aj.b6 ?_)|(apply ae.eX;(·simp(disch:=omega)only[go_sem,simprocAttr,z0]<;>with_reducible rfl))|(apply ae.eY;(·rfl);(·simp(disch:=omega)only[go_sem,simprocAttr,z0]<;>with_reducible rfl))|(apply ae.gs;(·simp(disch:=omega)only[go_sem,simprocAttr,z0]<;>with_reducible rfl))|((first|apply ae.e3|apply ae.e4|apply ae.e5);(·simp(disch:=omega)only[go_sem,simprocAttr,z0]<;>with_reducible rfl);(·simp(disch:=omega)only[go_sem,simprocAttr,z0]<;>with_reducible rfl);(·assumption);(·omega))|intro h|(apply aj.cond;(·simp(disch:=omega)only[go_sem,simprocAttr,z0]<;>with_reducible rfl)))
    all_goals first
      |(refine D.R ?_
        refine⟨_,rfl,.av ?_ rfl,trivial,trivial⟩
        first
          |(simp_all [fL,I.av]; done)
          |(simp_all [fL,I.av]; intros; omega))
      |skip
    refine D.P (ar) ?_
    refine ao ?_
    refine D.r ?_
    refine⟨_,rfl,.av ?_ rfl,trivial,trivial⟩
    first
      |(simp_all [fL,I.av]; done)
      |(simp_all [fL,I.av]; intros; omega)
   by_cases bL:k=5
   ·subst bL
    (repeat' first|(apply ae.s rfl;(·simp(disch:=omega)only[go_sem,simprocAttr,z0]<;>with_reducible rfl))|(apply aj.s true true;(·simp(disch:=omega)only[go_sem,simprocAttr,z0]<;>with_reducible rfl))|apply ae.nil|(refine aj.b6 ?_)|(apply ae.eX;(·simp(disch:=omega)only[go_sem,simprocAttr,z0]<;>with_reducible rfl))|(apply ae.eY;(·rfl);(·simp(disch:=omega)only[go_sem,simprocAttr,z0]<;>with_reducible rfl))|(apply ae.gs;(·simp(disch:=omega)only[go_sem,simprocAttr,z0]<;>with_reducible rfl))|((first|apply ae.e3|apply ae.e4|apply ae.e5);(·simp(disch:=omega)only[go_sem,simprocAttr,z0]<;>with_reducible rfl);(·simp(disch:=omega)only[go_sem,simprocAttr,z0]<;>with_reducible rfl);(·assumption);(·omega))|intro h|(apply aj.cond;(·simp(disch:=omega)only[go_sem,simprocAttr,z0]<;>with_reducible rfl)))
    all_goals first
      |(refine D.R ?_
        refine⟨_,rfl,.av ?_ rfl,trivial,trivial⟩
        first
          |(simp_all [fL,I.av]; done)
          |(simp_all [fL,I.av]; intros; omega))
      |skip
    all_goals
      refine D.P (ar) ?_
      refine ao ?_
      refine D.r ?_
      refine⟨_,rfl,.av ?_ rfl,trivial,trivial⟩
      first
        |(simp_all [fL,I.av]; done)
        |(simp_all [fL,I.av]; intros; omega)
   by_cases cq:k=6
   ·subst cq
    (have al:=z0;refine bQ ?_;clear al)
    refine D.P (B6 o) ?_
    (repeat' first|(apply ae.s rfl;(·simp(disch:=omega)only[go_sem,simprocAttr,z0]<;>with_reducible rfl))|(apply aj.s true true;(·simp(disch:=omega)only[go_sem,simprocAttr,z0]<;>with_reducible rfl))|apply ae.nil|(refine aj.b6 ?_)|(apply ae.eX;(·simp(disch:=omega)only[go_sem,simprocAttr,z0]<;>with_reducible rfl))|(apply ae.eY;(·rfl);(·simp(disch:=omega)only[go_sem,simprocAttr,z0]<;>with_reducible rfl))|(apply ae.gs;(·simp(disch:=omega)only[go_sem,simprocAttr,z0]<;>with_reducible rfl))|((first|apply ae.e3|apply ae.e4|apply ae.e5);(·simp(disch:=omega)only[go_sem,simprocAttr,z0]<;>with_reducible rfl);(·simp(disch:=omega)only[go_sem,simprocAttr,z0]<;>with_reducible rfl);(·assumption);(·omega))|intro h|(apply aj.cond;(·simp(disch:=omega)only[go_sem,simprocAttr,z0]<;>with_reducible rfl)))
    all_goals first
      |(refine D.R ?_
        refine⟨_,rfl,.av ?_ rfl,trivial,trivial⟩
        first
          |(simp_all [fL,I.av]; done)
          |(simp_all [fL,I.av]; intros; omega))
      |skip
    refine D.P (ar) ?_
    refine ao ?_
    refine D.r ?_
    refine⟨_,rfl,.av ?_ rfl,trivial,trivial⟩
    first
      |(simp_all [fL,I.av]; done)
      |(simp_all [fL,I.av]; intros; omega)
   (repeat' first|(apply ae.s rfl;(·simp(disch:=omega)only[go_sem,simprocAttr,z0,J,aa,au,bn,bL,cq]<;>with_reducible rfl))|(apply aj.s true true;(·simp(disch:=omega)only[go_sem,simprocAttr,z0,J,aa,au,bn,bL,cq]<;>with_reducible rfl))|apply ae.nil|(refine aj.b6 ?_)|(apply ae.eX;(·simp(disch:=omega)only[go_sem,simprocAttr,z0,J,aa,au,bn,bL,cq]<;>with_reducible rfl))|(apply ae.eY;(·rfl);(·simp(disch:=omega)only[go_sem,simprocAttr,z0,J,aa,au,bn,bL,cq]<;>with_reducible rfl))|(apply ae.gs;(·simp(disch:=omega)only[go_sem,simprocAttr,z0,J,aa,au,bn,bL,cq]<;>with_reducible rfl))|((first|apply ae.e3|apply ae.e4|apply ae.e5);(·simp(disch:=omega)only[go_sem,simprocAttr,z0,J,aa,au,bn,bL,cq]<;>with_reducible rfl);(·simp(disch:=omega)only[go_sem,simprocAttr,z0,J,aa,au,bn,bL,cq]<;>with_reducible rfl);(·assumption);(·omega))|intro h)
   refine D.r ?_
   refine⟨_,rfl,.av ?_ rfl,trivial,trivial⟩
   simp [fL,J,aa,au,bn,bL,cq,I.av]
end
end Go.bc.T.N
set_option maxRecDepth 1000000
namespace Go.bc.T.N
open Go Go.bc Go.Proofs Go.Shelf
def Gd:List (List I)→Option (List (List UInt8))
 |[]=>some []
 |[.str s]::aL=>match Gd aL with
  |some l=>some (s::l)
  |none=>none
 | _=>none
theorem Mo {P:Program}{t:TypeId}{z:Value}{n b:Nat}(h:(P.info? t).map (fun i=>(i.zero,i.size,i.bytes))=some (some z,n,b)): ∃i,P.info? t=some i∧i.zero=some z∧i.size=n∧i.bytes=b:=by
 cases ai:P.info? t with
 |none=>rw[ai]at h; cases h
 |some i=>
  rw[ai]at h
  simp only[Option.map_some,Option.some.injEq,Prod.mk.injEq]at h
  exact⟨i,rfl,h.1,h.2.1,h.2.2⟩
def SU:Value:= .agg #[.int .i64 0,.string ByteArray.empty,.string ByteArray.empty,.string ByteArray.empty,.int .i64 0,.slice none 0 0]
def SV:Value:= .agg #[.int .i64 0,.string ByteArray.empty,.int .i64 0,.string ByteArray.empty,.string ByteArray.empty,.string ByteArray.empty,.int .i64 0,.slice none 0 0,.int .i64 0,.slice none 0 0,.slice none 0 0]
end Go.bc.T.N
namespace Go.bc.T.N
open Go Go.bc Go.Proofs Go.RowKit
set_option maxRecDepth 100000
attribute [local irreducible] Go.bc.aj Go.bc.ae Go.bc.bz
section
attribute [local go_sem] ad.ct ad.b9 ad.de ac.ct ac.b9 ac.de cj eN
mutual
def iL:ad→Nat
 | .mk _ _ _ _ _ l=>1+oc l
def oc:List ad→Nat
 |[]=>0
 |x::l=>max (iL x) (oc l)
end
mutual
theorem AF: ∀x:ad,iL x≤x.bI
 | .mk _ _ _ _ _ l=>by
  have:=AG l
  simp only[iL,ad.bI]
  omega
theorem AG: ∀l:List ad,oc l≤ad.bB l
 |[]=>Nat.le_refl _
 |x::l=>by
  have:=AF x
  have:=AG l
  simp only[oc,ad.bB]
  omega
end
theorem Fm: ∀(N:Nat) (x:ad),x.bI≤N→N≤1000000000→Pure Tryz.prog 118 [.agg x.row] (.int .i64 (iL x:Int))
 |0,.mk k o m t n l,h,_=>by simp only[ad.bI]at h; omega
 |N+1,.mk k o m t n l,bW,rO=>by
  simp only[ad.bI]at bW
  have j9:l.length≤1000000000:=by have:=ad.hZ l; omega
  have yR:=AG l
  simp only[iL]
  refine cF bN Tryz.func118 T9 (by simp only[b3,I.flat,ad.de,Bool.and_self]) rfl ?_
  unfold I0 PA
  simp(disch:=omega)only[go_sem,simprocAttr]
  refine ao ?_
  refine aj.dd (X:=Nat×Nat) (0,0) (fun y=>[(7,.ay 6 (l.map ad.row)),(8,.int .i64 ((l.map ad.row).length:Int)),(9,.int .i64 (y.1:Int)),(3,.int .i64 (y.2:Int))]) (fun _=>[]) (fun _=>[]) (fun y=>y.1≤l.length∧y.2≤oc l∧max y.2 (oc (l.drop y.1))=oc l) (fun y=>l.length-y.1) ⟨Nat.zero_le _,Nat.zero_le _,by simp⟩ ⟨rfl,rfl,rfl,rfl,trivial⟩ trivial trivial ?_
  rintro⟨i,a⟩ ⟨ai,aP,aB⟩
  simp only at ai aP aB ⊢
  cases af:l[i]? with
  |some v=>
   have cK:=(List.getElem?_eq_some_iff.1 af).1
   rw[iM af]at aB
   simp only[oc]at aB
   have d1:(i:Int)<((l.map ad.row).length:Int):=by rw[List.length_map]; omega
   have e:=Fm N v (by have:=ad.lh af; omega) (by omega)
   obtain⟨q,bG⟩: ∃q,q=iL v:=⟨_,rfl⟩
   rw[←bG]at e aB
   rcases v with ⟨eb,ef,ed,eg,ee,ec⟩
   simp(disch:=omega)only[go_sem,simprocAttr]at e
   (have al:=d1;refine bQ ?_;clear al)
   refine D.P (e) ?_
   refine ao ?_
   refine aj.gT (i+1,max a q) ⟨by simp only; omega,by simp only; omega,by simp only; omega⟩ ⟨rfl,rfl,by simp only[Int.natCast_add]; rfl,by rw[show ((max a q:Nat):Int)=max (a:Int) (q:Int) by omega]; rfl,trivial⟩ trivial trivial rfl (by simp only[fY,dr,dP,dV,fO,I.cR,b2.bJ,go_sem]<;>rfl) (by show l.length-(i+1)<l.length-i; omega)
  |none=>
   have cM:=List.getElem?_eq_none_iff.1 af
   have bE:i=l.length:=by omega
   subst bE
   have d1: ¬(l.length:Int)<((l.map ad.row).length:Int):=by rw[List.length_map]; omega
   rw[List.drop_length]at aB
   simp only[oc]at aB
   (have al:=d1;refine bQ ?_;clear al)
   refine D.r ?_
   refine⟨_,rfl,.av ?_ rfl,trivial,trivial⟩
   simp only[I.av,I.int.injEq,true_and]
   omega
theorem ad3:c9 Tryz.prog 117=true:=by kernel_rfl
theorem at0 (x:ad) (ab:x.bI≤1000000000):Pure Tryz.prog 117 [.agg x.row] (.bool (decide (iL x≤10))):=by
 have e:=Fm 1000000000 x ab (Nat.le_refl _)
 obtain⟨q,bG⟩: ∃q,q=iL x:=⟨_,rfl⟩
 rw[←bG]at e ⊢
 rcases x with ⟨eb,ef,ed,eg,ee,ec⟩
 simp(disch:=omega)only[go_sem,simprocAttr]at e
 refine cF bN Tryz.func117 T8 (by simp only[b3,I.flat,ad.de,Bool.and_self]) rfl ?_
 unfold IZ Pz
 simp(disch:=omega)only[go_sem,simprocAttr]
 refine ao ?_
 refine D.P (e) ?_
 refine ao ?_
 refine D.r ?_
 refine⟨_,rfl,.av ?_ rfl,trivial,trivial⟩
 simp only[I.av,I.bool.injEq]
 exact decide_eq_decide.2 (by omega)
theorem Yc (n:Nat) (aw:0<n) (a6:n≤100000000000){c:a1}:bz Tryz.prog 172 [.aV,.int .i64 (n:Int)] c (nw (.own c.bF 6 []) (c.ig (.bJ 131 6 0))):=by
 obtain⟨i,J,aa,au,bn⟩:=Mo (P:=Tryz.prog) (t:=131) (z:=SU) (n:=6) (b:=88) (by kernel_rfl)
 have:=La (c:=c) Tryz.K8 (i0:=i) (z:=SU) J aa (by omega) (by rw[au]; rfl) (n:=n) aw (by rw[bn]; omega) (by omega)
 rw[au]at this
 exact this
theorem Ya {c:a1}:bz Tryz.prog 172 [.aV,.int .i64 0] c (nw .aV c):=K7 Tryz.K8
theorem Yd (n:Nat) (aw:0<n) (a6:n≤100000000000){c:a1}:bz Tryz.prog 194 [.aV,.int .i64 (n:Int)] c (nw (.own c.bF 11 []) (c.ig (.bJ 133 11 0))):=by
 obtain⟨i,J,aa,au,bn⟩:=Mo (P:=Tryz.prog) (t:=133) (z:=SV) (n:=11) (b:=168) (by kernel_rfl)
 have:=La (c:=c) Tryz.K9 (i0:=i) (z:=SV) J aa (by omega) (by rw[au]; rfl) (n:=n) aw (by rw[bn]; omega) (by omega)
 rw[au]at this
 exact this
theorem Yb {c:a1}:bz Tryz.prog 194 [.aV,.int .i64 0] c (nw .aV c):=K7 Tryz.K9
theorem at1 (a b:List ad) (aP:a.length≤1000000000) (hb:b.length≤1000000000):Pure Tryz.prog 119 [.ay 1 [[.ay 6 (a.map ad.row)],[.ay 6 (b.map ad.row)]]] (.ay 6 ((a++b).map ad.row)):=by
 have iF:((a.map ad.row).length:Int)=(a.length:Int):=by rw[List.length_map]
 have iG:((b.map ad.row).length:Int)=(b.length:Int):=by rw[List.length_map]
 refine cF bN Tryz.func119 Ua (by simp only[b3,I.flat,fP,ad.b9,Bool.and_self]) (by simp only[I.flat,ad.b9]) ?_
 unfold I1 PB
 simp(disch:=omega)only[go_sem,simprocAttr]
 refine ao ?_
 refine aj.dd (X:=Nat×Int) (0,0) (fun i=>[(0,.ay 1 [[.ay 6 (a.map ad.row)],[.ay 6 (b.map ad.row)]]),(2,.aV),(9,.ay 1 [[.ay 6 (a.map ad.row)],[.ay 6 (b.map ad.row)]]),(10,.int .i64 2),(11,.int .i64 (i.1:Int)),(3,.int .i64 i.2)]) (fun _=>[]) (fun _=>[]) (fun i=>(i.1=0∧i.2=0)∨(i.1=1∧i.2=a.length)∨(i.1=2∧i.2=(a.length:Int)+b.length)) (fun i=>2-i.1) (.inl ⟨rfl,rfl⟩) ⟨rfl,rfl,rfl,rfl,rfl,rfl,trivial⟩ trivial trivial ?_
 rintro⟨i,v⟩ (⟨J,aa⟩|⟨J,aa⟩|⟨J,aa⟩)
 all_goals
  simp only at J aa
  subst J aa
 ·have d1: ¬(a.length:Int)<0:=by omega
  have GO:(0:Int)+(a.length:Int)=(a.length:Int):=by omega
  simp(disch:=omega)only[go_sem,simprocAttr]
  (have al:=iF;have z2:=GO;have z3:=d1;refine ji ?_;clear al z2 z3)
  refine aj.dK (1,(a.length:Int)) (.inr (.inl ⟨rfl,rfl⟩)) ⟨rfl,rfl,rfl,rfl,rfl,rfl,trivial⟩ trivial trivial rfl rfl (by show 2-1<2-0; decide)
 ·have d1: ¬(a.length:Int)+(b.length:Int)<0:=by omega
  simp(disch:=omega)only[go_sem,simprocAttr]
  (have al:=iG;have z2:=d1;refine e8 ?_;clear al z2)
  refine aj.dK (2,(a.length:Int)+(b.length:Int)) (.inr (.inr ⟨rfl,rfl⟩)) ⟨rfl,rfl,rfl,rfl,rfl,rfl,trivial⟩ trivial trivial rfl rfl (by show 2-2<2-1; decide)
 refine ao ?_
 by_cases aw:a.length+b.length=0
 focus
  have e:(a.length:Int)+(b.length:Int)=0:=by omega
  rw[e]
  (apply ae.wI rfl (Ya);(·simp(disch:=omega)only[go_sem,simprocAttr]<;>rfl))
  simp only[xE,xD]
  refine bK ?_
  refine aj.rL 6 6 131 rfl (by decide) ?_
  simp(disch:=omega)only[go_sem,simprocAttr]
 rotate_left
 focus
  rw[show (a.length:Int)+(b.length:Int)=((a.length+b.length:Nat):Int) by omega]
  (apply ae.wI rfl (Yc (a.length+b.length) (by omega) (by omega));(·simp(disch:=omega)only[go_sem,simprocAttr]<;>rfl))
  simp only[xE,xD]
  simp(disch:=omega)only[go_sem,simprocAttr]
  (repeat' first|refine D.S ?_|refine ae.nil ?_|refine D.W ?_|refine D.Z ?_|refine D.G ?_ ?_|refine D.X ‹_› ?_|refine D.eh ‹_› ?_|refine D.ei ‹_› ?_|intro h)
 all_goals
  refine ao ?_
  refine aj.dd (X:=Nat×List ad) (0,[]) (fun i=>[(25,.ay 1 [[.ay 6 (a.map ad.row)],[.ay 6 (b.map ad.row)]]),(26,.int .i64 2),(27,.int .i64 (i.1:Int)),(6,.own 0 6 (i.2.map ad.row))]) (fun _=>[]) (fun i=>[(0,.bJ 131 6 (i.2.map ad.row).length)]) (fun i=>(i.1=0∧i.2=[])∨(i.1=1∧i.2=a)∨(i.1=2∧i.2=a++b)) (fun i=>2-i.1) (.inl ⟨rfl,rfl⟩) ⟨rfl,rfl,rfl,rfl,trivial⟩ trivial ⟨rfl,trivial⟩ ?_
  rintro⟨i,v⟩ (⟨J,aa⟩|⟨J,aa⟩|⟨J,aa⟩)
  ·simp only at J aa
   subst J aa
   refine ao ?_
   refine D.gL ?_
   refine ao ?_
   refine aj.dK (1,a) (.inr (.inl ⟨rfl,rfl⟩)) ⟨rfl,rfl,rfl,by simp only[List.map_nil,List.nil_append]; rfl,trivial⟩ trivial ⟨by simp only[List.map_nil,List.length_nil,Nat.zero_add]; rfl,trivial⟩ rfl rfl (by show 2-1<2-0; decide)
  ·simp only at J aa
   subst J aa
   refine ao ?_
   refine D.gL ?_
   refine ao ?_
   refine aj.dK (2,v++b) (.inr (.inr ⟨rfl,rfl⟩)) ⟨rfl,rfl,rfl,by simp only[List.map_append]; rfl,trivial⟩ trivial ⟨by simp only[List.map_append,List.length_append]; rfl,trivial⟩ rfl rfl (by show 2-2<2-1; decide)
  ·simp only at J aa
   subst J aa
   refine ao ?_
   refine D.r ?_
   exact⟨_,rfl,.av rfl (by simp only[I.flat,ad.b9]),trivial,trivial⟩
theorem au8 (a b:List ac) (aP:a.length≤1000000000) (hb:b.length≤1000000000):Pure Tryz.prog 164 [.ay 1 [[.ay 11 (a.map ac.row)],[.ay 11 (b.map ac.row)]]] (.ay 11 ((a++b).map ac.row)):=by
 have iF:((a.map ac.row).length:Int)=(a.length:Int):=by rw[List.length_map]
 have iG:((b.map ac.row).length:Int)=(b.length:Int):=by rw[List.length_map]
 refine cF bN Tryz.func164 UL (by simp only[b3,I.flat,fP,ac.b9,Bool.and_self]) (by simp only[I.flat,ac.b9]) ?_
 unfold Jz Qc
 simp(disch:=omega)only[go_sem,simprocAttr]
 refine ao ?_
 refine aj.dd (X:=Nat×Int) (0,0) (fun i=>[(0,.ay 1 [[.ay 11 (a.map ac.row)],[.ay 11 (b.map ac.row)]]),(2,.aV),(9,.ay 1 [[.ay 11 (a.map ac.row)],[.ay 11 (b.map ac.row)]]),(10,.int .i64 2),(11,.int .i64 (i.1:Int)),(3,.int .i64 i.2)]) (fun _=>[]) (fun _=>[]) (fun i=>(i.1=0∧i.2=0)∨(i.1=1∧i.2=a.length)∨(i.1=2∧i.2=(a.length:Int)+b.length)) (fun i=>2-i.1) (.inl ⟨rfl,rfl⟩) ⟨rfl,rfl,rfl,rfl,rfl,rfl,trivial⟩ trivial trivial ?_
 rintro⟨i,v⟩ (⟨J,aa⟩|⟨J,aa⟩|⟨J,aa⟩)
 all_goals
  simp only at J aa
  subst J aa
 ·have d1: ¬(a.length:Int)<0:=by omega
  have GO:(0:Int)+(a.length:Int)=(a.length:Int):=by omega
  simp(disch:=omega)only[go_sem,simprocAttr]
  (have al:=iF;have z2:=GO;have z3:=d1;refine ji ?_;clear al z2 z3)
  refine aj.dK (1,(a.length:Int)) (.inr (.inl ⟨rfl,rfl⟩)) ⟨rfl,rfl,rfl,rfl,rfl,rfl,trivial⟩ trivial trivial rfl rfl (by show 2-1<2-0; decide)
 ·have d1: ¬(a.length:Int)+(b.length:Int)<0:=by omega
  simp(disch:=omega)only[go_sem,simprocAttr]
  (have al:=iG;have z2:=d1;refine e8 ?_;clear al z2)
  refine aj.dK (2,(a.length:Int)+(b.length:Int)) (.inr (.inr ⟨rfl,rfl⟩)) ⟨rfl,rfl,rfl,rfl,rfl,rfl,trivial⟩ trivial trivial rfl rfl (by show 2-2<2-1; decide)
 refine ao ?_
 by_cases aw:a.length+b.length=0
 focus
  have e:(a.length:Int)+(b.length:Int)=0:=by omega
  rw[e]
  (apply ae.wI rfl (Yb);(·simp(disch:=omega)only[go_sem,simprocAttr]<;>rfl))
  simp only[xE,xD]
  refine bK ?_
  refine aj.rL 6 11 133 rfl (by decide) ?_
  simp(disch:=omega)only[go_sem,simprocAttr]
 rotate_left
 focus
  rw[show (a.length:Int)+(b.length:Int)=((a.length+b.length:Nat):Int) by omega]
  (apply ae.wI rfl (Yd (a.length+b.length) (by omega) (by omega));(·simp(disch:=omega)only[go_sem,simprocAttr]<;>rfl))
  simp only[xE,xD]
  simp(disch:=omega)only[go_sem,simprocAttr]
  (repeat' first|refine D.S ?_|refine ae.nil ?_|refine D.W ?_|refine D.Z ?_|refine D.G ?_ ?_|refine D.X ‹_› ?_|refine D.eh ‹_› ?_|refine D.ei ‹_› ?_|intro h)
 all_goals
  refine ao ?_
  refine aj.dd (X:=Nat×List ac) (0,[]) (fun i=>[(25,.ay 1 [[.ay 11 (a.map ac.row)],[.ay 11 (b.map ac.row)]]),(26,.int .i64 2),(27,.int .i64 (i.1:Int)),(6,.own 0 11 (i.2.map ac.row))]) (fun _=>[]) (fun i=>[(0,.bJ 133 11 (i.2.map ac.row).length)]) (fun i=>(i.1=0∧i.2=[])∨(i.1=1∧i.2=a)∨(i.1=2∧i.2=a++b)) (fun i=>2-i.1) (.inl ⟨rfl,rfl⟩) ⟨rfl,rfl,rfl,rfl,trivial⟩ trivial ⟨rfl,trivial⟩ ?_
  rintro⟨i,v⟩ (⟨J,aa⟩|⟨J,aa⟩|⟨J,aa⟩)
  ·simp only at J aa
   subst J aa
   refine ao ?_
   refine D.gL ?_
   refine ao ?_
   refine aj.dK (1,a) (.inr (.inl ⟨rfl,rfl⟩)) ⟨rfl,rfl,rfl,by simp only[List.map_nil,List.nil_append]; rfl,trivial⟩ trivial ⟨by simp only[List.map_nil,List.length_nil,Nat.zero_add]; rfl,trivial⟩ rfl rfl (by show 2-1<2-0; decide)
  ·simp only at J aa
   subst J aa
   refine ao ?_
   refine D.gL ?_
   refine ao ?_
   refine aj.dK (2,v++b) (.inr (.inr ⟨rfl,rfl⟩)) ⟨rfl,rfl,rfl,by simp only[List.map_append]; rfl,trivial⟩ trivial ⟨by simp only[List.map_append,List.length_append]; rfl,trivial⟩ rfl rfl (by show 2-2<2-1; decide)
  ·simp only at J aa
   subst J aa
   refine ao ?_
   refine D.r ?_
   exact⟨_,rfl,.av rfl (by simp only[I.flat,ac.b9]),trivial,trivial⟩
end
section
attribute [local go_sem] ad.ct ad.b9 ad.de ac.ct ac.b9 ac.de cj eN
mutual
def kh:ac→Nat
 | .mk _ _ x _ a b=>1+max (iL x) (max (iv a) (iv b))
def iv:List ac→Nat
 |[]=>0
 |x::l=>max (kh x) (iv l)
end
theorem Iv: ∀a b,iv (a++b)=max (iv a) (iv b)
 |[],b=>by simp [iv]
 |x::a,b=>by simp only[List.cons_append,iv,Iv a b]; omega
mutual
theorem WX: ∀x:ac,kh x≤x.bI
 | .mk _ _ x _ a b=>by
  have:=AF x
  have:=AH a
  have:=AH b
  simp only[kh,ac.bI]
  omega
theorem AH: ∀l:List ac,iv l≤ac.bB l
 |[]=>Nat.le_refl _
 |x::l=>by
  have:=WX x
  have:=AH l
  simp only[iv,ac.bB]
  omega
end
theorem ac.u1: ∀a b:List ac,ac.bB (a++b)=ac.bB a+ac.bB b
 |[],b=>by simp [ac.bB]
 |x::a,b=>by simp only[List.cons_append,ac.bB,ac.u1 a b]; omega
theorem OO: ∀(N:Nat) (x:ac),x.bI≤N→N≤1000000000→Pure Tryz.prog 110 [.agg x.row] (.int .i64 (kh x:Int))
 |0,.mk k h7 x t a b,h,_=>by simp only[ac.bI]at h; omega
 |N+1,.mk k h7 x t hU gD,bW,rO=>by
  simp only[ac.bI]at bW
  have Bm:=ac.hZ hU
  have Bn:=ac.hZ gD
  have j9:=ac.hZ (hU++gD)
  have D5:=ac.u1 hU gD
  have yR:=AH (hU++gD)
  have Ea:=AF x
  have ex:=Fm N x (by omega) (by omega)
  have wQ:=au8 hU gD (by omega) (by omega)
  simp only[kh]
  rw[←Iv]
  obtain⟨l,aH⟩: ∃l,l=hU++gD:=⟨_,rfl⟩
  rw[←aH]at wQ yR D5 j9 ⊢
  obtain⟨kS,ZK⟩: ∃q,q=iL x:=⟨_,rfl⟩
  rw[←ZK]at ex Ea ⊢
  clear aH
  rcases x with ⟨eb,ef,ed,eg,ee,ec⟩
  simp(disch:=omega)only[go_sem,simprocAttr]at ex
  refine cF bN Tryz.func110 T0 (by simp only[b3,I.flat,ac.de,Bool.and_self]) rfl ?_
  unfold IS Ps
  simp(disch:=omega)only[go_sem,simprocAttr]
  refine ao ?_
  refine D.P (ex) ?_
  refine ao ?_
  refine D.P (wQ) ?_
  refine ao ?_
  refine aj.dd (X:=Nat×Nat) (0,kS) (fun y=>[(14,.ay 11 (l.map ac.row)),(15,.int .i64 ((l.map ac.row).length:Int)),(16,.int .i64 (y.1:Int)),(3,.int .i64 (y.2:Int))]) (fun _=>[]) (fun _=>[]) (fun y=>y.1≤l.length∧y.2≤max kS (iv l)∧max y.2 (iv (l.drop y.1))=max kS (iv l)) (fun y=>l.length-y.1) ⟨Nat.zero_le _,by simp only; omega,by simp⟩ ⟨rfl,rfl,rfl,rfl,trivial⟩ trivial trivial ?_
  rintro⟨i,a⟩ ⟨ai,aP,aB⟩
  simp only at ai aP aB ⊢
  cases af:l[i]? with
  |some v=>
   have cK:=(List.getElem?_eq_some_iff.1 af).1
   rw[iM af]at aB
   simp only[iv]at aB
   have d1:(i:Int)<((l.map ac.row).length:Int):=by rw[List.length_map]; omega
   have e:=OO N v (by have:=ac.lh af; omega) (by omega)
   obtain⟨q,bG⟩: ∃q,q=kh v:=⟨_,rfl⟩
   rw[←bG]at e aB
   rcases v with ⟨dY,aj0,⟨aN2,aN6,aN4,aN7,aN5,aN3⟩,aJ2,aE4,aE6⟩
   simp(disch:=omega)only[go_sem,simprocAttr]at e
   (have al:=d1;refine bQ ?_;clear al)
   refine D.P (e) ?_
   refine ao ?_
   refine aj.gT (i+1,max a q) ⟨by simp only; omega,by simp only; omega,by simp only; omega⟩ ⟨rfl,rfl,by simp only[Int.natCast_add]; rfl,by rw[show ((max a q:Nat):Int)=max (a:Int) (q:Int) by omega]; rfl,trivial⟩ trivial trivial rfl (by simp only[fY,dr,dP,dV,fO,I.cR,b2.bJ,go_sem]<;>rfl) (by show l.length-(i+1)<l.length-i; omega)
  |none=>
   have cM:=List.getElem?_eq_none_iff.1 af
   have bE:i=l.length:=by omega
   subst bE
   have d1: ¬(l.length:Int)<((l.map ac.row).length:Int):=by rw[List.length_map]; omega
   rw[List.drop_length]at aB
   simp only[iv]at aB
   (have al:=d1;refine bQ ?_;clear al)
   refine D.r ?_
   refine⟨_,rfl,.av ?_ rfl,trivial,trivial⟩
   simp only[I.av,I.int.injEq,true_and]
   omega
theorem ad1:c9 Tryz.prog 109=true:=by kernel_rfl
theorem as5 (x:ac) (ab:x.bI≤1000000000):Pure Tryz.prog 109 [.agg x.row] (.bool (decide (kh x≤10))):=by
 have e:=OO 1000000000 x ab (Nat.le_refl _)
 obtain⟨q,bG⟩: ∃q,q=kh x:=⟨_,rfl⟩
 rw[←bG]at e ⊢
 rcases x with ⟨k,h7,⟨eb,ef,ed,eg,ee,ec⟩,t,a,b⟩
 simp(disch:=omega)only[go_sem,simprocAttr]at e
 refine cF bN Tryz.func109 TZ (by simp only[b3,I.flat,ac.de,Bool.and_self]) rfl ?_
 unfold IQ Pq
 simp(disch:=omega)only[go_sem,simprocAttr]
 refine ao ?_
 refine D.P (e) ?_
 refine ao ?_
 refine D.r ?_
 refine⟨_,rfl,.av ?_ rfl,trivial,trivial⟩
 simp only[I.av,I.bool.injEq]
 exact decide_eq_decide.2 (by omega)
end
end Go.bc.T.N
