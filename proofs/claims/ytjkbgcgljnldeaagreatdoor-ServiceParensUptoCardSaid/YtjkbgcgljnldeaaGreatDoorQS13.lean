/- Part of a proof; own work. -/
import Derived.Test.YtjkbgcgljnldeaaGreatDoorProg
import Derived.KernelRfl
import Derived.JoinedCond
import Derived.Test.YtjkbgcgljnldeaaGreatDoorRows
import Derived.Test.YtjkbgcgljnldeaaGreatDoorQS12
set_option linter.unusedVariables false
set_option linter.unusedSimpArgs false
set_option maxHeartbeats 8000000
namespace Go.bc
open Go Go.bc.T.N
theorem ah1 (d:Nat) (ps:List a7) (r:a7):eE d ps++r=List.replicate d 9++(ps.flatten++10::r):=by simp [eE]
theorem aT.line {d:Nat}{ps:List a7}{r q:a7}{us:bH}(h:aT (ps.flatten++10::r) q us):aT (eE d ps++r) q us:=by
 rw[ah1]
 exact aT.kp h d
theorem aT.my {w r q:a7}{us:bH}(hw:mx w=true) (h:aT r q us):aT (w++32::r) q (dH w::us):=aT.name hw rfl (aT.ft h)
def GW (N:Nat):Prop:=∀(x:ac),x.bI≤N→hX x=true→∀(d:Nat) (r q:a7) (us:bH),aT r q us→aT (ac.gS d [105,102,32] x++r) q (kV x++us)∧(x.kind=2→aT (ac.gS d [125,32,101,108,115,101,32,105,102,32] x++r) q (cy [125]::dH [101,108,115,101]::(kV x++us)))
theorem zh {N:Nat}(mo:GW N): ∀(l:List ac),ac.bB l≤N→ho l=true→∀(d:Nat) (r q:a7) (us:bH),aT r q us→aT (ac.fF d l++r) q (lr l++us)
 |[],_,_,d,r,q,us,h=>h
 |x::l,bW,aY,d,r,q,us,h=>by
  simp only[ac.bB]at bW
  simp only[ho,Bool.and_eq_true]at aY
  simp only[ac.fF,lr,List.append_assoc]
  exact (mo x (by omega) aY.1 d _ _ _ (zh mo l (by omega) aY.2 d r q us h)).1
theorem zg: ∀N,GW N
 |0,x,h,_=>by cases x; simp only[ac.bI]at h; omega
 |N+1,x,bW,aY=>by
  intro d r q us h
  rcases A9 aY with ⟨m,y,rfl,J,aa⟩|⟨y,a,b,rfl,aZ,aP,hb⟩|⟨y,t,a,rfl,aw,J,aZ,aP⟩
  ·refine⟨?_,fun h=>absurd h (by show ¬(1:Int)=2; decide)⟩
   simp only[ac.gS,kV,if_true]
   refine aT.line ?_
   simp only[List.flatten_cons,List.flatten_nil,List.append_nil,List.append_assoc,List.cons_append,List.nil_append]
   refine aT.word J rfl (aT.ft (aT.eq (aT.ft (aT.ex aa rfl (aT.lone rfl (aT.kQ h))))))
  ·simp only[ac.bI]at bW
   have key: ∀(bw:a7) (ay:bH) (f: ∀(z:a7) (ws:bH),aT z q ws→aT (bw++z) q (ay++ws)),aT (ac.gS d bw (.mk 2 [] y 0 a b)++r) q (ay++((gF y++cy [123]::(lr a++cy [125]::(if jH b=true then zI b else if b.isEmpty=true then[] else dH [101,108,115,101]::cy [123]::(lr b++[cy [125]]))))++us)):=by
    intro bw ay f
    simp only[ac.gS,show ¬(2:Int)=1 by decide,show ¬(2:Int)=3 by decide,if_false,List.append_assoc]
    refine aT.line ?_
    simp only[List.flatten_cons,List.flatten_nil,List.append_nil,List.append_assoc,List.cons_append,List.nil_append]
    refine f _ _ (aT.ex aZ rfl (aT.ft (aT.lone rfl (aT.kQ (zh (zg N) a (by omega) aP (d+1) _ _ _ ?_)))))
    by_cases oo:b=[]
    ·subst oo
     simp only[jH,List.isEmpty_nil,Bool.false_eq_true,if_false,if_true,List.nil_append]
     refine aT.line ?_
     exact aT.lone rfl (aT.kQ h)
    cases eU:jH b with
    |true=>
     simp only[if_true]
     match b,eU,hb,bW with
     |[gz],eU,hb,bW=>
     have aC:gz.kind=2:=of_decide_eq_true eU
     simp only[ho,Bool.and_true]at hb
     simp only[ac.bB]at bW
     simp only[ac.rC,zI,List.cons_append]
     exact (zg N gz (by omega) hb d r q us h).2 aC
    |false=>
     have xf:b.isEmpty=false:=by cases b with|nil=>exact absurd rfl oo|cons _ _=>rfl
     simp only[xf,Bool.false_eq_true,if_false,List.append_assoc,List.cons_append]
     refine aT.line ?_
     simp only[List.flatten_cons,List.flatten_nil,List.append_nil,List.cons_append,List.nil_append]
     refine aT.lone (c:=125) rfl (aT.ft ?_)
     refine aT.my (w:=[101,108,115,101]) rfl (aT.lone (c:=123) rfl (aT.kQ ?_))
     refine zh (zg N) b (by omega) hb (d+1) _ _ _ ?_
     refine aT.line ?_
     exact aT.lone rfl (aT.kQ h)
   have e:kV (.mk 2 [] y 0 a b)=[dH [105,102]]++(gF y++cy [123]::(lr a++cy [125]::(if jH b=true then zI b else if b.isEmpty=true then[] else dH [101,108,115,101]::cy [123]::(lr b++[cy [125]])))):=by
    simp only[kV,show ¬(2:Int)=1 by decide,show ¬(2:Int)=3 by decide,if_false,List.cons_append,List.nil_append]
   refine⟨?_,fun _=> ?_⟩
   ·rw[e,List.append_assoc]
    exact key _ _ fun z ws aB=>aT.my (w:=[105,102]) rfl aB
   ·rw[e,List.append_assoc]
    have:=key [125,32,101,108,115,101,32,105,102,32] [cy [125],dH [101,108,115,101],dH [105,102]] fun z ws aB=>by
     simp only[List.cons_append,List.nil_append]
     refine aT.lone (c:=125) rfl (aT.ft ?_)
     exact aT.my (w:=[101,108,115,101]) rfl (aT.my (w:=[105,102]) rfl aB)
    exact this
  ·refine⟨?_,fun h=>absurd h (by show ¬(3:Int)=2; decide)⟩
   simp only[ac.bI]at bW
   simp only[ac.gS,kV,show ¬(3:Int)=1 by decide,if_true,if_false,List.append_assoc,List.cons_append,List.nil_append]
   refine aT.line ?_
   simp only[List.flatten_cons,List.flatten_nil,List.append_nil,List.append_assoc,List.cons_append,List.nil_append]
   refine aT.my (w:=[119,104,105,108,101]) rfl ?_
   refine aT.ex aZ rfl (aT.ft ?_)
   refine aT.my (w:=[116,105,109,101,115]) rfl ?_
   refine aT.int (by omega) (by omega) rfl (aT.ft (aT.lone rfl (aT.kQ ?_)))
   refine zh (zg N) a (by omega) aP (d+1) _ _ _ ?_
   refine aT.line ?_
   exact aT.lone rfl (aT.kQ h)
def vd:List a7→bH
 |[]=>[]
 |w::ws=>cy [46]::dH w::vd ws
def Gh:List a7→bH
 |[]=>[]
 |w::ws=>dH w::vd ws
def xU (m:a7):bH:=Gh (iS m)
def pH:List a7→a7
 |[]=>[]
 |w::ws=>46::w++pH ws
def CF:List a7→a7
 |[]=>[]
 |w::ws=>w++pH ws
theorem zF (s:a7):iS s≠[]:=by
 cases s with
 |nil=>simp [iS]
 |cons c s=>
  simp only[iS]
  split
  ·simp
  ·split<;>simp
theorem GC: ∀s:a7,CF (iS s)=s
 |[]=>rfl
 |c::s=>by
  have cv:=GC s
  have dw:=zF s
  simp only[iS]
  split
  ·rename_i h
   subst h
   cases ap:iS s with
   |nil=>exact absurd ap dw
   |cons w ws=>
    rw[ap]at cv
    simp only[CF,pH,List.nil_append,List.cons_append]at cv ⊢
    rw[cv]
  ·cases ap:iS s with
   |nil=>exact absurd ap dw
   |cons w ws=>
    rw[ap]at cv
    simp only[CF,List.cons_append]at cv ⊢
    rw[cv]
theorem Xb {w r q:a7}{us:bH}(hw:db w=true) (h:aT (w++r) q us):aT (46::(w++r)) q (cy [46]::us):=by
 cases w with
 |nil=>simp [db,mx]at hw
 |cons c w=>
  simp only[db,mx,Bool.and_eq_true]at hw
  have ah:c≠46:=by rintro rfl; exact absurd hw.1.2.1 (by decide)
  refine aT.m1 (by decide) ?_ ?_ h
  ·show ([46,c]:a7)∉gO
   simp [gO,ah]
  ·show ([46,c]:a7)≠ _
   simp
theorem Lz (ws:List a7){r:a7}(ag:ki r=false):ki (pH ws++r)=false:=by
 cases ws with
 |nil=>exact ag
 |cons w ws=>rfl
theorem aT.pH: ∀(ws:List a7),ws.all db=true→∀(r q:a7) (us:bH),ki r=false→aT r q us→aT (bc.pH ws++r) q (vd ws++us)
 |[],_,r,q,us,ag,h=>h
 |w::ws,hw,r,q,us,ag,h=>by
  simp only[List.all_cons,Bool.and_eq_true]at hw
  simp only[bc.pH,vd,List.cons_append,List.append_assoc]
  exact Xb hw.1 (aT.word hw.1 (Lz ws ag) (aT.pH ws hw.2 r q us ag h))
theorem aT.path {m r q:a7}{us:bH}(hm:kR m=true) (ag:ki r=false) (h:aT r q us):aT (m++r) q (xU m++us):=by
 simp only[kR,Bool.and_eq_true,Ga]at hm
 have hu:=GC m
 unfold xU
 cases ap:iS m with
 |nil=>exact absurd ap (zF m)
 |cons w ws=>
  rw[ap]at hm hu
  simp only[List.all_cons,Bool.and_eq_true]at hm
  rw[←hu]
  simp only[CF,Gh,List.append_assoc,List.cons_append]
  exact aT.word hm.2.1 (Lz ws ag) (aT.pH ws hm.2.2 r q us ag h)
def pF {α:Type}(f:α→bH):List α→bH
 |[]=>[]
 |x::l=>cy [44]::(f x++pF f l)
def qR {α:Type}(f:α→bH):List α→bH
 |[]=>[]
 |x::l=>f x++pF f l
theorem ac8 (x:a7) (l:List a7):Lib.join (x::l) [44,32]=x++(l.map ([44,32]++ ·)).flatten:=by
 rw[Lib.join_cons]; rfl
theorem aT.H4 {α:Type}{f:α→bH}{g:α→a7}{P:α→Prop}(aW: ∀x,P x→∀(r q:a7) (us:bH),ki r=false→aT r q us→aT (g x++r) q (f x++us)): ∀(l:List α),(∀x∈l,P x)→∀(r q:a7) (us:bH),ki r=false→aT r q us→aT (((l.map g).map ([44,32]++ ·)).flatten++r) q (pF f l++us)
 |[],_,r,q,us,ag,h=>h
 |x::l,aH,r,q,us,ag,h=>by
  have cv:=aT.H4 aW l (fun y aZ=>aH y (List.mem_cons_of_mem _ aZ)) r q us ag h
  simp only[List.map_cons,List.flatten_cons,pF,List.cons_append,List.nil_append,List.append_assoc]
  refine aT.lone rfl (aT.ft (aW x (aH x List.mem_cons_self) _ _ _ ?_ cv))
  cases l with
  |nil=>exact ag
  |cons y l=>rfl
theorem aT.MM {α:Type}{f:α→bH}{g:α→a7}{P:α→Prop}(aW: ∀x,P x→∀(r q:a7) (us:bH),ki r=false→aT r q us→aT (g x++r) q (f x++us)) (l:List α) (aH: ∀x∈l,P x) (r q:a7) (us:bH) (ag:ki r=false) (h:aT r q us):aT (Lib.join (l.map g) [44,32]++r) q (qR f l++us):=by
 cases l with
 |nil=>exact h
 |cons x l=>
  rw[List.map_cons,ac8,List.append_assoc]
  simp only[qR,List.append_assoc]
  refine aW x (aH x List.mem_cons_self) _ _ _ ?_ (aT.H4 aW l (fun y aZ=>aH y (List.mem_cons_of_mem _ aZ)) r q us ag h)
  cases l with
  |nil=>exact ag
  |cons y l=>rfl
def nr (z:Int):bH:=if z<0 then[cy [45],kr (-z)] else[kr z]
theorem aT.F5 {z:Int}{r q:a7}{us:bH}(aw: -1000000<z) (J:z<1000000) (ag:ki r=false) (h:aT r q us):aT (Lib.itoa z++r) q (nr z++us):=by
 unfold nr
 by_cases aB:z<0
 ·rw[if_pos aB,ac0 aB]
  obtain⟨c,y,ap,_,c2⟩:=(Is (-z).toNat).dM (r:=r)
  have:=aT.num (n:=(-z).toNat) (by omega) ag h
  rw[show (((-z).toNat:Nat):Int)= -z by omega]at this
  rw[List.cons_append]
  rw[ap]at this ⊢
  exact aT.minus c2 this
 ·rw[if_neg aB]
  exact aT.int (by omega) J ag h
def tr (k n:Int) (s:a7):bH:=if k=2 then[p6 s] else nr n
def q4 (v:cb):bH:=dH [118,97,114]::dH v.name::cy [58]::dH (if v.hV=2 then[116,101,120,116] else[105,110,116])::(nr v.cz++cy [46,46]::(nr v.ai++cy [61]::(tr v.ik v.n v.s++[cy [59]])))
def uP (h:cd):bH:=dH [111,110]::(xU h.eK++cy [40]::(qR (fun w=>[dH w]) h.ps++cy [41]::dH [102,114,111,109]::dH h.peer::cy [123]::(lr h.body++[cy [125]])))
def v7:List ad→bH
 |[]=>[]
 |x:: _=>dH [119,104,101,114,101]::gF x
def uQ (o:ca):bH:=dH [111,102,102,101,114]::(xU o.eK++cy [40]::(qR gF o.args++cy [41]::dH [116,111]::dH o.peer::(v7 o.dT++[cy [59]])))
theorem K5 {v:cb}(h:iN v=true):db v.name=true∧ -1000000<v.cz∧v.cz<1000000∧ -1000000<v.ai∧v.ai<1000000∧((v.hV=1)∨(v.hV=2∧0≤v.cz∧0≤v.ai))∧((v.ik=1∧ -1000000<v.n∧v.n<1000000∧v.s=[])∨(v.ik=2∧v.n=0∧lM v.s=true)):=by
 simp only[iN,Bool.and_eq_true,iX,decide_eq_true_eq,Bool.or_eq_true]at h
 obtain⟨aw,J,aa,aC,au⟩:=h
 refine⟨aw,by omega,by omega,by omega,by omega,aC,?_⟩
 by_cases bC:v.ik=1
 ·rw[if_pos bC]at au
  simp only[Bool.and_eq_true,decide_eq_true_eq]at au
  exact .inl ⟨bC,by omega,by omega,au.2⟩
 rw[if_neg bC]at au
 by_cases bA:v.ik=2
 ·rw[if_pos bA]at au
  simp only[Bool.and_eq_true,decide_eq_true_eq]at au
  exact .inr ⟨bA,au.1,au.2⟩
 ·rw[if_neg bA]at au
  cases au
theorem Xc {r q:a7}{us:bH}(h:aT (32::r) q us):aT (46::46::32::r) q (cy [46,46]::us):=aT.m2 (by decide) h
theorem aT.aL7 {v:cb}(aY:iN v=true){r q:a7}{us:bH}(h:aT r q us):aT (jT v++r) q (q4 v++us):=by
 obtain⟨aw,J,aa,au,bn,aC,ai⟩:=K5 aY
 unfold jT
 refine aT.line ?_
 simp only[q4,List.flatten_cons,List.flatten_nil,List.append_nil,List.append_assoc,List.cons_append,List.nil_append]
 refine aT.my (w:=[118,97,114]) rfl ?_
 refine aT.word aw rfl (aT.lone rfl (aT.ft ?_))
 have xg:aT (qM v.ik v.n v.s++59::10::r) q (tr v.ik v.n v.s++cy [59]::us):=by
  unfold qM tr
  rcases ai with ⟨k,a,b,_⟩|⟨k,_,b⟩
  ·rw[if_neg (by omega),if_neg (by omega)]
   exact aT.F5 a b rfl (aT.lone rfl (aT.kQ h))
  ·rw[if_pos k,if_pos k]
   exact aT.text b (aT.lone rfl (aT.kQ h))
 have LW:aT (Lib.itoa v.cz++32::46::46::32::(Lib.itoa v.ai++32::61::32::(qM v.ik v.n v.s++59::10::r))) q (nr v.cz++cy [46,46]::(nr v.ai++cy [61]::(tr v.ik v.n v.s++cy [59]::us))):=by
  refine aT.F5 J aa rfl (aT.ft (Xc (aT.ft ?_)))
  exact aT.F5 au bn rfl (aT.ft (aT.eq (aT.ft xg)))
 rcases aC with k|⟨k,_⟩
 ·rw[if_neg (by omega),if_neg (by omega)]
  exact aT.my (w:=[105,110,116]) rfl LW
 ·rw[if_pos k,if_pos k]
  exact aT.my (w:=[116,101,120,116]) rfl LW
theorem aT.YF {x:cd}(aY:jZ x=true){r q:a7}{us:bH}(h:aT r q us):aT (jb x++r) q (uP x++us):=by
 obtain⟨g1,_⟩:=yI aY
 simp only[jZ,Bool.and_eq_true]at aY
 obtain⟨bC,bA,_,cO,_⟩:=aY
 unfold jb
 simp only[List.append_assoc]
 refine aT.line ?_
 simp only[uP,List.flatten_cons,List.flatten_nil,List.append_nil,List.append_assoc,List.cons_append,List.nil_append]
 refine aT.my (w:=[111,110]) rfl ?_
 refine aT.path bC rfl (aT.lone rfl ?_)
 have rX: ∀z ay,ki z=false→aT z q ay→aT (Lib.join x.ps [44,32]++z) q (qR (fun w=>[dH w]) x.ps++ay):=fun z ay aB h=>by
  have:=aT.MM (f:=fun w=>[dH w]) (g:=fun w:a7=>w) (P:=fun w=>db w=true) (fun w hw r q us ag h=>aT.word hw ag h) x.ps (fun w hw=>List.all_eq_true.1 cO w hw) z q ay aB h
  simpa using this
 refine rX _ _ rfl (aT.lone rfl (aT.ft ?_))
 refine aT.my (w:=[102,114,111,109]) rfl ?_
 refine aT.word bA rfl (aT.ft (aT.lone rfl (aT.kQ ?_)))
 refine zh (zg _) x.body (Nat.le_refl _) g1 2 _ _ _ ?_
 refine aT.line ?_
 exact aT.lone rfl (aT.kQ h)
theorem aT.ak1 {x:ca}(aY:j6 x=true){r q:a7}{us:bH}(h:aT r q us):aT (jJ x++r) q (uQ x++us):=by
 obtain⟨g1,g2,g3⟩:=yJ aY
 simp only[j6,Bool.and_eq_true]at aY
 obtain⟨bC,bA,_⟩:=aY
 unfold jJ
 refine aT.line ?_
 simp only[uQ,List.flatten_cons,List.flatten_nil,List.append_nil,List.append_assoc,List.cons_append,List.nil_append]
 refine aT.my (w:=[111,102,102,101,114]) rfl ?_
 refine aT.path bC rfl (aT.lone rfl ?_)
 refine aT.MM (P:=fun x=>dB x=true) (fun y aZ r q us ag h=>aT.ex aZ ag h) x.args (fun y aZ=>List.all_eq_true.1 g1 y aZ) _ _ _ rfl (aT.lone rfl (aT.ft ?_))
 refine aT.my (w:=[116,111]) rfl ?_
 have xg:aT (59::10::r) q (cy [59]::us):=aT.lone rfl (aT.kQ h)
 cases hw:x.dT with
 |nil=>
  simp only[p9,v7,List.nil_append]
  exact aT.word bA rfl xg
 |cons w ws=>
  rw[hw]at g2
  simp only[List.all_cons,Bool.and_eq_true]at g2
  simp only[p9,v7,List.cons_append,List.nil_append]
  refine aT.word bA rfl (aT.ft ?_)
  exact aT.my (w:=[119,104,101,114,101]) rfl (aT.ex g2.1 rfl xg)
theorem aT.maps {α:Type}{f:α→bH}{g:α→a7}{P:α→Prop}(aW: ∀x,P x→∀(r q:a7) (us:bH),aT r q us→aT (g x++r) q (f x++us)): ∀(l:List α),(∀x∈l,P x)→∀(r q:a7) (us:bH),aT r q us→aT ((l.map g).flatten++r) q ((l.map f).flatten++us)
 |[],_,r,q,us,h=>h
 |x::l,aH,r,q,us,h=>by
  simp only[List.map_cons,List.flatten_cons,List.append_assoc]
  exact aW x (aH x List.mem_cons_self) _ _ _ (aT.maps aW l (fun y aZ=>aH y (List.mem_cons_of_mem _ aZ)) r q us h)
def vZ (a b c:a7):bH:=[dH [115,101,114,118,105,99,101],dH a,dH [112,108,97,121,115],dH b,dH [111,102],dH c,cy [123]]
def Gg (x:e9):bH:=vZ x.name x.hD x.hA++((x.vars.map q4).flatten++((x.ap.map uP).flatten++((x.os.map uQ).flatten++[cy [125]])))
theorem aT.Y2 {a b c:a7}(aP:db a=true) (hb:db b=true) (ah:db c=true){r q:a7}{us:bH}(h:aT r q us):aT (eE 0 [[115,101,114,118,105,99,101,32],a,[32,112,108,97,121,115,32],b,[32,111,102,32],c,[32,123]]++r) q (vZ a b c++us):=by
 refine aT.line ?_
 simp only[vZ,List.flatten_cons,List.flatten_nil,List.append_nil,List.append_assoc,List.cons_append,List.nil_append]
 refine aT.my (w:=[115,101,114,118,105,99,101]) rfl ?_
 refine aT.word aP rfl (aT.ft ?_)
 refine aT.my (w:=[112,108,97,121,115]) rfl ?_
 refine aT.word hb rfl (aT.ft ?_)
 refine aT.my (w:=[111,102]) rfl ?_
 exact aT.word ah rfl (aT.ft (aT.lone rfl (aT.kQ h)))
theorem aT.tp {x:e9}(J:qX x=true) (aa:py x=true):aT (iK x) [] (Gg x):=by
 simp only[qX,Bool.and_eq_true]at J
 simp only[py,Bool.and_eq_true]at aa
 obtain⟨bC,bA,cO,_⟩:=J
 obtain⟨g1,g2,g3⟩:=aa
 unfold iK Gg
 simp only[List.append_assoc]
 refine aT.Y2 bC bA cO ?_
 refine aT.maps (P:=fun v=>iN v=true) (fun v af r q us h=>aT.aL7 af h) x.vars (fun v af=>List.all_eq_true.1 g1 v af) _ _ _ ?_
 refine aT.maps (P:=fun v=>jZ v=true) (fun v af r q us h=>aT.YF af h) x.ap (fun v af=>List.all_eq_true.1 g2 v af) _ _ _ ?_
 refine aT.maps (P:=fun v=>j6 v=true) (fun v af r q us h=>aT.ak1 af h) x.os (fun v af=>List.all_eq_true.1 g3 v af) _ _ _ ?_
 have:aT (eE 0 [[125]]++[]) [] ([cy [125]]++[]):=aT.line (aT.lone rfl (aT.kQ (aT.refl [])))
 simpa using this
end Go.bc
namespace Go.bc
open Go Go.bc.T.N
inductive hJ where
 |h (x:cd)
 |o (x:ca)
end Go.bc
namespace Go.bc.T.N
open Go Go.bc Go.Proofs Go.RowKit
set_option maxRecDepth 100000
attribute [local irreducible] Go.bc.aj Go.bc.ae Go.bc.bz
section
attribute [local go_sem] ad.ct ac.ct ad.b9 ac.b9 cj eN
theorem OR (z:Int):Pure Tryz.prog 139 [.int .u8 z] (.bool (xr z)):=by
 refine cF bN Tryz.func139 Uq rfl rfl ?_
 unfold Jh PR
 simp(disch:=omega)only[go_sem,simprocAttr]
 (repeat' first|refine D.S ?_|refine D.cN true true ?_|refine ae.nil ?_|refine aj.b6 ?_|refine D.W ?_|refine D.Z ?_|refine D.G ?_ ?_|refine D.X ‹_› ?_|refine D.eh ‹_› ?_|refine D.ei ‹_› ?_|intro h|refine D.C ?_ ?_)
 all_goals (refine D.R ?_)
 all_goals (refine⟨_,rfl,.av ?_ rfl,trivial,trivial⟩; simp_all [xr,I.av]<;>(try omega))
theorem au2 (z:Int):Pure Tryz.prog 141 [.int .u8 z] (.bool (vc z)):=by
 refine cF bN Tryz.func141 Ut rfl rfl ?_
 unfold Jj PU
 simp(disch:=omega)only[go_sem,simprocAttr]
 (repeat' first|refine D.S ?_|refine D.cN true true ?_|refine ae.nil ?_|refine aj.b6 ?_|refine D.W ?_|refine D.Z ?_|refine D.G ?_ ?_|refine D.X ‹_› ?_|refine D.eh ‹_› ?_|refine D.ei ‹_› ?_|intro h|refine D.C ?_ ?_)
 all_goals (refine D.R ?_)
 all_goals (refine⟨_,rfl,.av ?_ rfl,trivial,trivial⟩; simp_all [vc,I.av]<;>(try omega))
theorem au1 (z:Int):Pure Tryz.prog 140 [.int .u8 z] (.bool (uu z)):=by
 refine cF bN Tryz.func140 Us rfl rfl ?_
 unfold Ji PT
 simp(disch:=omega)only[go_sem,simprocAttr]
 refine ao ?_
 refine D.P (OR z) ?_
 (repeat' first|refine D.S ?_|refine D.cN true true ?_|refine ae.nil ?_|refine aj.b6 ?_|refine D.W ?_|refine D.Z ?_|refine D.G ?_ ?_|refine D.X ‹_› ?_|refine D.eh ‹_› ?_|refine D.ei ‹_› ?_|intro h|refine D.C ?_ ?_)
 ·first|refine D.R ?_|refine D.E ?_
  refine⟨_,rfl,.av ?_ rfl,trivial,trivial⟩
  simp_all [uu,I.av]
 refine D.P (au2 z) ?_
 (repeat' first|refine D.S ?_|refine D.cN true true ?_|refine ae.nil ?_|refine aj.b6 ?_|refine D.W ?_|refine D.Z ?_|refine D.G ?_ ?_|refine D.X ‹_› ?_|refine D.eh ‹_› ?_|refine D.ei ‹_› ?_|intro h|refine D.C ?_ ?_)
 all_goals (refine D.R ?_)
 all_goals (refine⟨_,rfl,.av ?_ rfl,trivial,trivial⟩; simp_all [uu,I.av]<;>(try omega))
theorem at6 (l:List a7) (s:a7) (aH:l.length≤1000000000):Pure Tryz.prog 133 [.ay 1 (l.map cj),.str s] (.bool (l.contains s)):=by
 refine cF bN Tryz.func133 Uk (by simp only[b3,I.flat,eN,Bool.and_self]) rfl ?_
 unfold Jb PL
 simp(disch:=omega)only[go_sem,simprocAttr]
 refine ao ?_
 refine aj.dd (X:=Nat) 0 (fun i=>[(0,.ay 1 (l.map cj)),(1,.str s),(5,.int .i64 (i:Int))]) (fun _=>[]) (fun _=>[]) (fun i=>i≤l.length∧(l.drop i).contains s=l.contains s) (fun i=>l.length-i) ⟨Nat.zero_le _,rfl⟩ ⟨rfl,rfl,rfl,trivial⟩ trivial trivial ?_
 rintro i ⟨ai,aB⟩
 try simp only at ai aB ⊢
 cases af:l[i]? with
 |some v=>
  have cK:=(List.getElem?_eq_some_iff.1 af).1
  have d1:(i:Int)<((l.map cj).length:Int):=by rw[List.length_map]; omega
  rw[iM af]at aB
  by_cases ab:v=s
  ·simp only[List.contains_cons,ab,beq_self_eq_true,Bool.true_or]at aB
   (have al:=d1;have z2:=ab;refine e8 ?_;clear al z2)
   first|refine D.R ?_|refine D.E ?_
   exact⟨_,rfl,.av (by rw[←aB]; rfl) rfl,trivial,trivial⟩
  ·have hQ:(s==v)=false:=by simpa using fun e:s=v=>ab e.symm
   simp only[List.contains_cons,hQ,Bool.false_or]at aB
   (have al:=d1;have z2:=ab;refine e8 ?_;clear al z2)
   refine aj.dK (i+1) ⟨by omega,aB⟩ ⟨rfl,rfl,by simp only[Int.natCast_add]; rfl,trivial⟩ trivial trivial rfl rfl (by show l.length-(i+1)<l.length-i; omega)
 |none=>
  have cM:=List.getElem?_eq_none_iff.1 af
  have bE:i=l.length:=by omega
  subst bE
  have d1: ¬(l.length:Int)<((l.map cj).length:Int):=by rw[List.length_map]; omega
  rw[List.drop_length]at aB
  (have al:=d1;refine bQ ?_;clear al)
  first|refine D.R ?_|refine D.E ?_
  exact⟨_,rfl,.av (by rw[←aB]; rfl) rfl,trivial,trivial⟩
theorem at7:Pure Tryz.prog 134 [] (.ay 1 (r2.map cj)):=by
 refine cF bN Tryz.func134 Ul rfl rfl ?_
 unfold Jc PM
 simp(disch:=omega)only[go_sem,simprocAttr]
 refine ao ?_
 first|refine D.R ?_|refine D.E ?_
 exact⟨_,rfl,.av rfl rfl,trivial,trivial⟩
theorem at5 (s:a7):Pure Tryz.prog 132 [.str s] (.bool (mx s)):=by
 cases s with
 |nil=>
  refine cF bN Tryz.func132 HG rfl rfl ?_
  unfold DA FH
  simp(disch:=omega)only[go_sem,simprocAttr]
  refine ao ?_
  first|refine D.R ?_|refine D.E ?_
  exact⟨_,rfl,.av rfl rfl,trivial,trivial⟩
 |cons c s=>
 have bW:mx (c::s)=(decide ((c::s).length≤16)&&(l1 c&&(c::s).all iO)):=rfl
 have aw:(c::s)[0]? =some c:=rfl
 have dw: ¬(c::s)=[]:=by simp
 have yz:Pure Tryz.prog 139 [.int .u8 (c.toNat:Int)] (.bool (l1 c)):=OR _
 generalize c::s=S at bW aw dw
 rw[bW]
 refine cF bN Tryz.func132 HG rfl rfl ?_
 unfold DA FH
 simp(disch:=omega)only[go_sem,simprocAttr]
 (have al:=dw;refine bQ ?_;clear al)
 refine D.P (yz) ?_
 cases ek:l1 c
 ·refine ao ?_
  first|refine D.R ?_|refine D.E ?_
  exact⟨_,rfl,.av (by simp [I.av]) rfl,trivial,trivial⟩
 by_cases aH:S.length≤16
 rotate_left
 ·have d1:(16:Int)<(S.length:Int):=by omega
  (have al:=d1;refine bQ ?_;clear al)
  first|refine D.R ?_|refine D.E ?_
  exact⟨_,rfl,.av (by simp [I.av,aH]) rfl,trivial,trivial⟩
 have d1: ¬(16:Int)<(S.length:Int):=by omega
 simp only[decide_eq_true aH,Bool.true_and]
 (have al:=d1;refine bQ ?_;clear al)
 refine aj.dd (X:=Nat) 0 (fun i=>[(0,.str S),(3,.int .i64 (i:Int))]) (fun _=>[]) (fun _=>[]) (fun i=>i≤S.length∧(S.drop i).all iO=S.all iO) (fun i=>S.length-i) ⟨Nat.zero_le _,rfl⟩ ⟨rfl,rfl,trivial⟩ trivial trivial ?_
 rintro i ⟨ai,aB⟩
 try simp only at ai aB ⊢
 cases af:S[i]? with
 |some v=>
  have cK:=(List.getElem?_eq_some_iff.1 af).1
  have d2:(i:Int)<(S.length:Int):=by omega
  have AS:Pure Tryz.prog 140 [.int .u8 (v.toNat:Int)] (.bool (iO v)):=au1 _
  rw[iM af]at aB
  simp only[List.all_cons]at aB
  cases w8:iO v
  ·rw[w8]at aB AS
   (have al:=d2;refine bQ ?_;clear al)
   refine D.P (AS) ?_
   refine ao ?_
   first|refine D.R ?_|refine D.E ?_
   exact⟨_,rfl,.av (by rw[←aB]; rfl) rfl,trivial,trivial⟩
  ·rw[w8]at aB AS
   (have al:=d2;refine bQ ?_;clear al)
   refine D.P (AS) ?_
   refine ao ?_
   refine aj.dK (i+1) ⟨by omega,by simpa using aB⟩ ⟨rfl,by simp only[Int.natCast_add]; rfl,trivial⟩ trivial trivial rfl rfl (by show S.length-(i+1)<S.length-i; omega)
 |none=>
  have cM:=List.getElem?_eq_none_iff.1 af
  have bE:i=S.length:=by omega
  subst bE
  have d2: ¬(S.length:Int)<(S.length:Int):=by omega
  rw[List.drop_length]at aB
  (have al:=d2;refine bQ ?_;clear al)
  first|refine D.R ?_|refine D.E ?_
  exact⟨_,rfl,.av (by rw[←aB]; rfl) rfl,trivial,trivial⟩
theorem r9 (s:a7):Pure Tryz.prog 58 [.str s] (.bool (db s)):=by
 have ar:=at5 s
 have ax:=at6 r2 s (by decide)
 have fq:=at7
 unfold db
 generalize mx s=eB at*
 generalize r2.contains s=dU at*
 refine cF bN Tryz.func58 Vx rfl rfl ?_
 unfold Kb QY
 simp(disch:=omega)only[go_sem,simprocAttr]
 refine ao ?_
 refine D.P (ar) ?_
 cases eB
 ·refine ao ?_
  first|refine D.R ?_|refine D.E ?_
  exact⟨_,rfl,.av rfl rfl,trivial,trivial⟩
 refine ao ?_
 refine D.P (fq) ?_
 refine ao ?_
 refine D.P (ax) ?_
 refine ao ?_
 first|refine D.R ?_|refine D.E ?_
 exact⟨_,rfl,.av rfl rfl,trivial,trivial⟩
theorem au0 (s:a7):Pure Tryz.prog 136 [.str s] (.bool (db s)):=by
 refine cF bN Tryz.func136 Un rfl rfl ?_
 unfold Je PO
 simp(disch:=omega)only[go_sem,simprocAttr]
 refine ao ?_
 refine D.P (r9 s) ?_
 refine ao ?_
 first|refine D.R ?_|refine D.E ?_
 exact⟨_,rfl,.av rfl rfl,trivial,trivial⟩
theorem aG6: ∀ {u:a7}(v:a7),46∉u→iS (u++v)=(match iS v with
  |w::ws=>(u++w)::ws
  |[]=>[])
 |[],v,_=>by
  have:=zF v
  cases ap:iS v with
  |nil=>exact absurd ap this
  |cons w ws=>simp [ap]
 |c::u,v,h=>by
  simp only[List.mem_cons,not_or]at h
  have cv:=aG6 (u:=u) v h.2
  rw[List.cons_append,iS,if_neg (fun e=>h.1 e.symm),cv]
  have:=zF v
  cases ap:iS v with
  |nil=>exact absurd ap this
  |cons w ws=>rfl
theorem O4 (s:a7) (ap:s.length≤1000000000000000):Pure Tryz.prog 60 [.str s] (.bool (kR s)):=by
 obtain⟨R,an⟩: ∃R,R=(iS s).all db:=⟨_,rfl⟩
 have qD:kR s=(decide (s.length≤50)&&R):=by rw[kR,Ga,an]
 rw[qD]
 refine cF bN Tryz.func60 Df rfl rfl ?_
 unfold Kd Q0
 simp(disch:=omega)only[go_sem,simprocAttr]
 refine ao ?_
 refine aj.dd (X:=Nat×Nat) (0,0) (fun x=>[(0,.str s),(4,.int .i64 (x.1:Int)),(3,.int .i64 (x.2:Int))]) (fun _=>[]) (fun _=>[]) (fun x=>(x.1≤s.length∧x.2≤x.1∧46∉(s.take x.1).drop x.2∧R=(iS (s.drop x.2)).all db)∨(x.1=s.length+1∧R=true)) (fun x=>s.length+1-x.1) (.inl ⟨Nat.zero_le _,Nat.le_refl _,by simp,by simpa using an⟩) ⟨rfl,rfl,rfl,trivial⟩ trivial trivial ?_
 rintro⟨i,f⟩ h
 simp only at h ⊢
 rcases h with ⟨ai,aW,a6,aB⟩|⟨rfl,aB⟩
 rotate_left
 ·have d1: ¬((s.length:Int)+1≤(s.length:Int)):=by omega
  (repeat' first|(apply ae.s rfl;(·simp(disch:=omega)only[go_sem,simprocAttr,Int.natCast_add,d1]<;>with_reducible rfl))|(apply aj.s true true;(·simp(disch:=omega)only[go_sem,simprocAttr,Int.natCast_add,d1]<;>with_reducible rfl))|apply ae.nil|(refine aj.b6 ?_)|(apply ae.eX;(·simp(disch:=omega)only[go_sem,simprocAttr,Int.natCast_add,d1]<;>with_reducible rfl))|(apply ae.eY;(·rfl);(·simp(disch:=omega)only[go_sem,simprocAttr,Int.natCast_add,d1]<;>with_reducible rfl))|(apply ae.gs;(·simp(disch:=omega)only[go_sem,simprocAttr,Int.natCast_add,d1]<;>with_reducible rfl))|((first|apply ae.e3|apply ae.e4|apply ae.e5);(·simp(disch:=omega)only[go_sem,simprocAttr,Int.natCast_add,d1]<;>with_reducible rfl);(·simp(disch:=omega)only[go_sem,simprocAttr,Int.natCast_add,d1]<;>with_reducible rfl);(·assumption);(·omega))|intro h)
  first|refine D.R ?_|refine D.E ?_
  refine⟨_,rfl,.av ?_ rfl,trivial,trivial⟩
  rw[aB]
  simp only[I.av,Bool.and_true,I.bool.injEq]
  exact decide_eq_decide.2 (by omega)
 have d1:(i:Int)≤(s.length:Int):=by omega
 have gi:s.drop f=(s.take i).drop f++s.drop i:=by
  conv=>lhs; rw[←List.take_append_drop i s]
  rw[List.drop_append_of_le_length (by rw[List.length_take]; omega)]
 obtain⟨u,hu⟩: ∃u,u=(s.take i).drop f:=⟨_,rfl⟩
 rw[←hu]at a6 gi
 have KN:=au0 u
 by_cases he:i=s.length
 ·subst he
  have d1:(s.length:Int)≤(s.length:Int):=by omega
  have El:s.drop s.length=[]:=List.drop_eq_nil_of_le (by omega)
  rw[El,List.append_nil]at gi
  rw[gi,F9 a6]at aB
  simp only[List.all_cons,List.all_nil,Bool.and_true]at aB
  (have al:=d1;refine bQ ?_;clear al)
  (apply ae.uM (f) (s.length);(·simp(disch:=omega)only[go_sem,simprocAttr]<;>with_reducible rfl);(·simp(disch:=omega)only[go_sem,simprocAttr]<;>with_reducible rfl);(·simp(disch:=omega)only[go_sem,simprocAttr]<;>with_reducible rfl);(·omega);(·omega);(·omega);(·(try simp only[List.length_map]);omega))
  rw[←hu]
  refine ao ?_
  refine D.P (KN) ?_
  rw[←aB]
  cases R
  ·refine ao ?_
   first|refine D.R ?_|refine D.E ?_
   exact⟨_,rfl,.av (by simp [I.av]) rfl,trivial,trivial⟩
  ·refine ao ?_
   refine aj.dK (s.length+1,s.length+1) (by first|exact .inr ⟨rfl,rfl⟩|exact .inr rfl) ⟨rfl,by simp only[Int.natCast_add]; rfl,by simp only[Int.natCast_add]; rfl,trivial⟩ trivial trivial rfl rfl (by show s.length+1-(s.length+1)<s.length+1-s.length; omega)
 have cK:i<s.length:=by omega
 have d2: ¬(i:Int)=(s.length:Int):=by omega
 obtain⟨c,ah⟩: ∃c,s[i]? =some c:=⟨_,List.getElem?_eq_getElem cK⟩
 have YX:=iM ah
 rw[YX]at gi
 have kM:(s.take (i+1)).drop f=u++[c]:=by
  rw[List.take_add_one,ah,List.drop_append_of_le_length (by rw[List.length_take]; omega),←hu]
  rfl
 by_cases Lg:c.toNat=46
 ·have YV:c=46:=UInt8.toNat_inj.1 Lg
  subst YV
  rw[gi,F8 _ a6]at aB
  simp only[List.all_cons]at aB
  (have al:=d1;have z2:=d2;refine e8 ?_;clear al z2)
  (apply ae.uM (f) (i);(·simp(disch:=omega)only[go_sem,simprocAttr]<;>with_reducible rfl);(·simp(disch:=omega)only[go_sem,simprocAttr]<;>with_reducible rfl);(·simp(disch:=omega)only[go_sem,simprocAttr]<;>with_reducible rfl);(·omega);(·omega);(·omega);(·(try simp only[List.length_map]);omega))
  rw[←hu]
  refine ao ?_
  refine D.P (KN) ?_
  cases hw:db u
  ·rw[hw]at aB
   refine ao ?_
   first|refine D.R ?_|refine D.E ?_
   exact⟨_,rfl,.av (by rw[aB]; simp [I.av]) rfl,trivial,trivial⟩
  ·rw[hw]at aB
   refine ao ?_
   refine aj.dK (i+1,i+1) (.inl ⟨by omega,Nat.le_refl _,by simp,by simpa using aB⟩) ⟨rfl,by simp only[Int.natCast_add]; rfl,by simp only[Int.natCast_add]; rfl,trivial⟩ trivial trivial rfl rfl (by show s.length+1-(i+1)<s.length+1-i; omega)
 ·have d3: ¬(c.toNat:Int)=46:=by omega
  (have al:=d1;have z2:=d2;have z3:=d3;refine ji ?_;clear al z2 z3)
  refine aj.dK (i+1,f) (.inl ⟨by omega,by omega,?_,aB⟩) ⟨rfl,by simp only[Int.natCast_add]; rfl,rfl,trivial⟩ trivial trivial rfl rfl (by show s.length+1-(i+1)<s.length+1-i; omega)
  simp only[kM,List.mem_append,List.mem_singleton,not_or]
  exact⟨a6,fun e=>Lg (by rw[←e]; rfl)⟩
theorem av9 (s:a7) (ap:s.length≤1000000000):Pure Tryz.prog 185 [.str s] (.bool (s.all eo)):=by
 refine cF bN Tryz.func185 U0 rfl rfl ?_
 unfold JM Qr
 simp(disch:=omega)only[go_sem,simprocAttr]
 refine ao ?_
 refine aj.dd (X:=Nat) 0 (fun i=>[(0,.str s),(3,.int .i64 (i:Int))]) (fun _=>[]) (fun _=>[]) (fun i=>i≤s.length∧(s.drop i).all eo=s.all eo) (fun i=>s.length-i) ⟨Nat.zero_le _,rfl⟩ ⟨rfl,rfl,trivial⟩ trivial trivial ?_
 rintro i ⟨ai,aB⟩
 try simp only at ai aB ⊢
 cases af:s[i]? with
 |some v=>
  have cK:=(List.getElem?_eq_some_iff.1 af).1
  have d1:(i:Int)<(s.length:Int):=by omega
  rw[iM af]at aB
  simp only[List.all_cons]at aB
  by_cases J:v.toNat<32
  ·have d2:(v.toNat:Int)<32:=by omega
   have aq:eo v=false:=by simp [eo]; omega
   rw[aq]at aB
   (have al:=d1;have z2:=d2;refine e8 ?_;clear al z2)
   first|refine D.R ?_|refine D.E ?_
   exact⟨_,rfl,.av (by rw[←aB]; rfl) rfl,trivial,trivial⟩
  have d2: ¬(v.toNat:Int)<32:=by omega
  by_cases aa:126<v.toNat
  ·have d3:(126:Int)<(v.toNat:Int):=by omega
   have aq:eo v=false:=by simp [eo]; omega
   rw[aq]at aB
   (have al:=d1;have z2:=d2;have z3:=d3;refine ji ?_;clear al z2 z3)
   first|refine D.R ?_|refine D.E ?_
   exact⟨_,rfl,.av (by rw[←aB]; rfl) rfl,trivial,trivial⟩
  ·have d3: ¬(126:Int)<(v.toNat:Int):=by omega
   have aq:eo v=true:=by simp [eo]; omega
   rw[aq,Bool.true_and]at aB
   (have al:=d1;have z2:=d2;have z3:=d3;refine ji ?_;clear al z2 z3)
   refine aj.dK (i+1) ⟨by omega,aB⟩ ⟨rfl,by simp only[Int.natCast_add]; rfl,trivial⟩ trivial trivial rfl rfl (by show s.length-(i+1)<s.length-i; omega)
 |none=>
  have cM:=List.getElem?_eq_none_iff.1 af
  have bE:i=s.length:=by omega
  subst bE
  have d1: ¬(s.length:Int)<(s.length:Int):=by omega
  rw[List.drop_length]at aB
  (have al:=d1;refine bQ ?_;clear al)
  first|refine D.R ?_|refine D.E ?_
  exact⟨_,rfl,.av (by rw[←aB]; rfl) rfl,trivial,trivial⟩
def so (k n:Int) (s:a7):Bool:=if k=1 then decide (-1000≤n)&&(decide (n≤1000)&&decide (s=[])) else if k=2 then decide (n=0)&&lM s else false
theorem OQ (k n:Int) (s:a7):Pure Tryz.prog 135 [.agg [.int .i64 k,.int .i64 n,.str s]] (.bool (so k n s)):=by
 have e:s.length≤40→Pure Tryz.prog 185 [.str s] (.bool (s.all eo)):=fun h=>av9 s (by omega)
 unfold so lM
 generalize s.all eo=b at*
 refine cF bN Tryz.func135 Um rfl rfl ?_
 unfold Jd PN
 simp(disch:=omega)only[go_sem,simprocAttr]
 by_cases bC:k=1
 ·subst bC
  by_cases J: -1000≤n
  rotate_left
  ·(have al:=J;refine bQ ?_;clear al)
   first|refine D.R ?_|refine D.E ?_
   exact⟨_,rfl,.av (by simp [I.av,J]) rfl,trivial,trivial⟩
  by_cases aa:n≤1000
  rotate_left
  ·(have al:=J;have z2:=aa;refine e8 ?_;clear al z2)
   first|refine D.R ?_|refine D.E ?_
   exact⟨_,rfl,.av (by simp [I.av,aa]) rfl,trivial,trivial⟩
  (have al:=J;have z2:=aa;refine e8 ?_;clear al z2)
  first|refine D.R ?_|refine D.E ?_
  exact⟨_,rfl,.av (by simp [I.av,J,aa]) rfl,trivial,trivial⟩
 by_cases bA:k=2
 ·subst bA
  by_cases J:n=0
  rotate_left
  ·(have al:=J;refine bQ ?_;clear al)
   first|refine D.R ?_|refine D.E ?_
   exact⟨_,rfl,.av (by simp [I.av,J]) rfl,trivial,trivial⟩
  by_cases aa:s.length≤40
  rotate_left
  ·have d2: ¬(s.length:Int)≤40:=by omega
   (have al:=J;have z2:=d2;refine e8 ?_;clear al z2)
   first|refine D.R ?_|refine D.E ?_
   exact⟨_,rfl,.av (by simp [I.av,aa]) rfl,trivial,trivial⟩
  have d2:(s.length:Int)≤40:=by omega
  (have al:=J;have z2:=d2;refine e8 ?_;clear al z2)
  refine D.P (e aa) ?_
  refine ao ?_
  first|refine D.R ?_|refine D.E ?_
  exact⟨_,rfl,.av (by simp [I.av,J,aa]) rfl,trivial,trivial⟩
 (have al:=bC;have z2:=bA;refine e8 ?_;clear al z2)
 first|refine D.R ?_|refine D.E ?_
 exact⟨_,rfl,.av (by simp [I.av,bC,bA]) rfl,trivial,trivial⟩
end
section
attribute [local go_sem] ad.ct ad.b9 ad.de ac.ct ac.b9 ac.de cj eN fZ gJ dp of_flat
theorem Xq:(List.range 10).all (fun d=>(Utf8.encode (48+(d:Int))).data.toList==[UInt8.ofNat (48+d)])=true:=by kernel_rfl
theorem Xs {d:Nat}(h:d<10):(Utf8.encode (48+(d:Int))).data.toList=[UInt8.ofNat (48+d)]:=by
 have:=List.all_eq_true.1 Xq d (List.mem_range.2 h)
 simpa only[beq_iff_eq] using this
theorem ac1 {n:Nat}(h:n<10):Lib.itoa (n:Int)=[UInt8.ofNat (48+n)]:=by
 unfold Lib.itoa
 rw[if_neg (by omega),Int.toNat_natCast,wK h]
theorem ab9 {n:Nat}(h: ¬n<10):Lib.itoa (n:Int)=Lib.itoa ((n/10:Nat):Int)++[UInt8.ofNat (48+n%10)]:=by
 unfold Lib.itoa
 rw[if_neg (by omega),if_neg (by omega),Int.toNat_natCast,Int.toNat_natCast,yw h]
theorem Mt {n:Nat}(h:1≤n):Lib.itoa (-(n:Int))=45::Lib.decDigits n:=by
 unfold Lib.itoa
 rw[if_pos (by omega)]
 simp
theorem aJ5 (m:Nat):(-(m:Int)).tdiv 10= -((m/10:Nat):Int):=by rw[Int.neg_tdiv]; rfl
theorem ma (m:Nat):(-(m:Int)).tmod 10= -((m%10:Nat):Int):=by rw[Int.neg_tmod]; rfl
theorem aJ6 (m:Nat):(m:Int).tdiv 10=((m/10:Nat):Int):=rfl
theorem aJ7 (m:Nat):(m:Int).tmod 10=((m%10:Nat):Int):=rfl
theorem aM4 {d:Int}(aw:0≤d) (J:d<10):IntKind.i32.wrap (48+d)=48+d:=by
 simp only[IntKind.wrap,IntKind.bits,IntKind.signed]
 simp
 omega
attribute [local go_sem] aM4 Xs Int.sub_neg aJ5 ma aJ6 aJ7
theorem ay6: ∀n:Nat,n≤1000000000→Pure Tryz.prog 75 [.int .i64 (n:Int)] (.str (Lib.itoa (n:Int))):=by
 intro n
 induction n using Nat.strongRecOn with
 |ind n cv=>
 intro a6
 have J: ¬(n:Int)< -9:=by omega
 have aa: ¬(n:Int)<0:=by omega
 refine cF bN Tryz.func75 HK rfl rfl ?_
 unfold DE FL
 simp(disch:=omega)only[go_sem,simprocAttr]
 by_cases rM:n<10
 ·have au:(n:Int)<10:=by omega
  rw[ac1 rM]
  (have al:=J;have z2:=aa;have z3:=au;refine ji ?_;clear al z2 z3)
  first|refine D.R ?_|refine D.E ?_
  exact⟨_,rfl,.av rfl rfl,trivial,trivial⟩
 ·have au: ¬(n:Int)<10:=by omega
  have e:=cv (n/10) (by omega) (by omega)
  have aH:=Lib.itoa_length_le ((n/10:Nat):Int) (by omega) (by omega)
  rw[ab9 rM]
  generalize Lib.itoa ((n/10:Nat):Int)=s at*
  (have al:=J;have z2:=aa;have z3:=au;refine ji ?_;clear al z2 z3)
  refine D.P (e) ?_
  refine ao ?_
  refine D.bR ?_
  refine ao ?_
  first|refine D.R ?_|refine D.E ?_
  exact⟨_,rfl,.av rfl rfl,trivial,trivial⟩
theorem ay5: ∀n:Nat,1≤n→n≤1000000000→Pure Tryz.prog 75 [.int .i64 (-(n:Int))] (.str (Lib.itoa (-(n:Int)))):=by
 intro n
 induction n using Nat.strongRecOn with
 |ind n cv=>
 intro hp a6
 rw[Mt hp]
 refine cF bN Tryz.func75 HK rfl rfl ?_
 unfold DE FL
 simp(disch:=omega)only[go_sem,simprocAttr]
 by_cases rM:n<10
 ·have J: ¬ -(n:Int)< -9:=by omega
  have aa: -(n:Int)<0:=by omega
  rw[wK rM]
  (have al:=J;have z2:=aa;refine e8 ?_;clear al z2)
  refine D.bR ?_
  refine ao ?_
  first|refine D.R ?_|refine D.E ?_
  exact⟨_,rfl,.av rfl rfl,trivial,trivial⟩
 ·have J: -(n:Int)< -9:=by omega
  have e:=cv (n/10) (by omega) (by omega) (by omega)
  have aH:=Lib.itoa_length_le (-((n/10:Nat):Int)) (by omega) (by omega)
  rw[Mt (by omega)]at aH e
  rw[yw rM]
  generalize Lib.decDigits (n/10)=s at*
  (have al:=J;refine bQ ?_;clear al)
  refine D.P (e) ?_
  refine ao ?_
  simp only[List.length_cons]at aH
  refine D.bR ?_
  refine ao ?_
  first|refine D.R ?_|refine D.E ?_
  exact⟨_,rfl,.av rfl rfl,trivial,trivial⟩
theorem zw (n:Int) (aw: -1000000000≤n) (J:n≤1000000000):Pure Tryz.prog 75 [.int .i64 n] (.str (Lib.itoa n)):=by
 by_cases h:0≤n
 ·obtain⟨m,rfl⟩:=Int.eq_ofNat_of_zero_le h
  exact ay6 m (by omega)
 ·obtain⟨m,hm⟩:=Int.eq_ofNat_of_zero_le (a:= -n) (by omega)
  have:n= -(m:Int):=by omega
  subst this
  exact ay5 m (by omega) (by omega)
theorem O9 (s:a7) (ap:s.length≤100000000):Pure Tryz.prog 76 [.str s] (.str (p4 s)):=by
 refine cF bN Tryz.func76 VL rfl rfl ?_
 unfold Kp Re
 simp(disch:=omega)only[go_sem,simprocAttr]
 refine ao ?_
 refine aj.dd (X:=Nat×a7) (0,[34]) (fun x=>[(0,.str s),(3,.str x.2),(4,.int .i64 (x.1:Int))]) (fun _=>[]) (fun _=>[]) (fun x=>x.1≤s.length∧x.2=[34]++iC (s.take x.1)) (fun x=>s.length-x.1) ⟨Nat.zero_le _,rfl⟩ ⟨rfl,rfl,rfl,trivial⟩ trivial trivial ?_
 rintro⟨i,o⟩ ⟨ai,aB⟩
 try simp only at ai aB ⊢
 have aH:o.length≤300000000:=by
  have:=xG (s.take i)
  rw[aB,List.length_append,List.length_cons,List.length_nil]
  rw[List.length_take]at this
  omega
 cases af:s[i]? with
 |some v=>
  have cK:=(List.getElem?_eq_some_iff.1 af).1
  have d1:(i:Int)<(s.length:Int):=by omega
  have kM:(s.take (i+1))=s.take i++[v]:=by rw[List.take_add_one,af]; rfl
  have pS:(s.take (i+1)).drop i=[v]:=by
   rw[kM,List.drop_append_of_le_length (by rw[List.length_take]; omega),List.drop_eq_nil_of_le (by rw[List.length_take]; omega)]
   rfl
  have bG:iC [v]=if v.toNat=34∨v.toNat=92 then[92,v] else[v]:=by simp only[iC,List.append_nil]
  have mv:[34]++iC (s.take (i+1))=o++iC [v]:=by rw[kM,FF,←List.append_assoc,aB]
  rw[bG]at mv
  by_cases J:v.toNat=34
  ·have d2:(v.toNat:Int)=34:=by omega
   rw[if_pos (.inl J)]at mv
   (have al:=d1;have z2:=d2;refine e8 ?_;clear al z2)
   refine D.bR ?_
   refine ao ?_
   (apply ae.uM (i) (i+1);(·simp(disch:=omega)only[go_sem,simprocAttr]<;>with_reducible rfl);(·simp(disch:=omega)only[go_sem,simprocAttr]<;>with_reducible rfl);(·simp(disch:=omega)only[go_sem,simprocAttr]<;>with_reducible rfl);(·omega);(·omega);(·omega);(·(try simp only[List.length_map]);omega))
   rw[pS]
   refine ao ?_
   refine D.bR ?_
   refine ao ?_
   refine aj.dK (i+1,o++[92]++[v]) ⟨by omega,by simpa using mv.symm⟩ ⟨rfl,rfl,by simp only[Int.natCast_add]; rfl,trivial⟩ trivial trivial rfl rfl (by show s.length-(i+1)<s.length-i; omega)
  have d2: ¬(v.toNat:Int)=34:=by omega
  by_cases aa:v.toNat=92
  ·have d3:(v.toNat:Int)=92:=by omega
   rw[if_pos (.inr aa)]at mv
   (have al:=d1;have z2:=d2;have z3:=d3;refine ji ?_;clear al z2 z3)
   refine D.bR ?_
   refine ao ?_
   (apply ae.uM (i) (i+1);(·simp(disch:=omega)only[go_sem,simprocAttr]<;>with_reducible rfl);(·simp(disch:=omega)only[go_sem,simprocAttr]<;>with_reducible rfl);(·simp(disch:=omega)only[go_sem,simprocAttr]<;>with_reducible rfl);(·omega);(·omega);(·omega);(·(try simp only[List.length_map]);omega))
   rw[pS]
   refine ao ?_
   refine D.bR ?_
   refine ao ?_
   refine aj.dK (i+1,o++[92]++[v]) ⟨by omega,by simpa using mv.symm⟩ ⟨rfl,rfl,by simp only[Int.natCast_add]; rfl,trivial⟩ trivial trivial rfl rfl (by show s.length-(i+1)<s.length-i; omega)
  ·have d3: ¬(v.toNat:Int)=92:=by omega
   rw[if_neg (by omega)]at mv
   (have al:=d1;have z2:=d2;have z3:=d3;refine ji ?_;clear al z2 z3)
   (apply ae.uM (i) (i+1);(·simp(disch:=omega)only[go_sem,simprocAttr]<;>with_reducible rfl);(·simp(disch:=omega)only[go_sem,simprocAttr]<;>with_reducible rfl);(·simp(disch:=omega)only[go_sem,simprocAttr]<;>with_reducible rfl);(·omega);(·omega);(·omega);(·(try simp only[List.length_map]);omega))
   rw[pS]
   refine ao ?_
   refine D.bR ?_
   refine ao ?_
   refine aj.dK (i+1,o++[v]) ⟨by omega,by simpa using mv.symm⟩ ⟨rfl,rfl,by simp only[Int.natCast_add]; rfl,trivial⟩ trivial trivial rfl rfl (by show s.length-(i+1)<s.length-i; omega)
 |none=>
  have cM:=List.getElem?_eq_none_iff.1 af
  have bE:i=s.length:=by omega
  subst bE
  have d1: ¬(s.length:Int)<(s.length:Int):=by omega
  rw[List.take_length]at aB
  (have al:=d1;refine bQ ?_;clear al)
  refine D.bR ?_
  refine ao ?_
  first|refine D.R ?_|refine D.E ?_
  exact⟨_,rfl,.av (by rw[aB]; rfl) rfl,trivial,trivial⟩
end
section
attribute [local go_sem] ad.ct ad.b9 ad.de ac.ct ac.b9 ac.de cj eN fZ gJ dp of_flat
theorem th: ∀(N:Nat),(∀x:ad,x.bI≤N→dB x=true→(cm x).length≤1000000000→Pure Tryz.prog 28 [.agg x.row] (.str (cm x)))∧(∀(x:ad) (k:Int),x.bI≤N→dB x=true→(fX x (cm x) k).length≤1000000000→Pure Tryz.prog 77 [.agg x.row,.int .i64 k] (.str (fX x (cm x) k)))
 |0=>⟨fun x h=>by cases x; simp only[ad.bI]at h; omega,fun x k h=>by cases x; simp only[ad.bI]at h; omega⟩
 |N+1=>by
  have key: ∀x:ad,x.bI≤N+1→dB x=true→(cm x).length≤1000000000→Pure Tryz.prog 28 [.agg x.row] (.str (cm x)):=by
   rintro⟨k,o,m,t,n,l⟩ bW aY ap
   simp only[ad.bI]at bW
   simp only[dB,Bool.and_eq_true]at aY
   obtain⟨bh,hq⟩:=aY
   simp only[cm,Cn]at ap ⊢
   have qL:=ap
   unfold A4 at ap ⊢
   refine cF bN Tryz.func28 Vc (by simp only[b3,I.flat,ad.de,Bool.and_self]) rfl ?_
   unfold JX QD
   simp(disch:=omega)only[go_sem,simprocAttr]
   rcases Ec bh with ⟨rfl,aw,J,aa⟩|⟨rfl,aw,J⟩|⟨rfl,aw⟩|⟨rfl,aw⟩|⟨rfl,aw⟩|⟨rfl,aw⟩
   ·refine ao ?_
    refine D.P (zw n (by omega) (by omega)) ?_
    refine ao ?_
    first|refine D.R ?_|refine D.E ?_
    exact⟨_,rfl,.av rfl rfl,trivial,trivial⟩
   ·refine ao ?_
    refine D.P (O9 t (by omega)) ?_
    refine ao ?_
    first|refine D.R ?_|refine D.E ?_
    exact⟨_,rfl,.av rfl rfl,trivial,trivial⟩
   ·refine ao ?_
    first|refine D.R ?_|refine D.E ?_
    exact⟨_,rfl,.av rfl rfl,trivial,trivial⟩
   ·match l,aw with
    |[x],_=>
    simp only[mY,Bool.and_true]at hq
    simp only[ad.bB]at bW
    have hY:([108,101,110,40]++cm x++[41]).length≤1000000000:=ap
    simp only[List.length_append,List.length_cons,List.length_nil]at hY
    have e:=(th N).1 x (by omega) hq (by omega)
    rcases x with ⟨eb,ef,ed,eg,ee,ec⟩
    simp(disch:=omega)only[go_sem,simprocAttr]at e
    refine ao ?_
    refine D.P (e) ?_
    refine D.bR ?_
    refine D.bR ?_
    refine ao ?_
    first|refine D.R ?_|refine D.E ?_
    exact⟨_,rfl,.av rfl rfl,trivial,trivial⟩
   ·match l,aw with
    |[x],_=>
    simp only[mY,Bool.and_true]at hq
    simp only[ad.bB]at bW
    have hY:(o++fX x (cm x) 7).length≤1000000000:=ap
    simp only[List.length_append]at hY
    have e:=(th N).2 x 7 (by omega) hq (by omega)
    show aj Tryz.prog _ _ _ _ (tJ (.str (o++fX x (cm x) 7)) [] []) _ _
    generalize fX x (cm x) 7=iD at e hY ⊢
    clear ap qL
    rcases x with ⟨eb,ef,ed,eg,ee,ec⟩
    simp(disch:=omega)only[go_sem,simprocAttr]at e
    iterate 6 refine iT ?_
    repeat refine D.cN true true ?_
    refine aj.fs (anns:=[.str iD]) ?_
    refine bK ?_
    refine D.df (e) ?_
    refine D.bR ?_ (hb:=by simp only[maxLen]; omega)
    refine ao ?_
    first|refine D.R ?_|refine D.E ?_
    exact⟨_,rfl,.av rfl rfl,trivial,trivial⟩
   ·match l,aw with
    |[x,y],_=>
    simp only[mY,Bool.and_true,Bool.and_eq_true]at hq
    simp only[ad.bB]at bW
    have hY:(fX x (cm x) (cV o)++[32]++o++[32]++fX y (cm y) (cV o+1)).length≤1000000000:=ap
    simp only[List.length_append,List.length_cons,List.length_nil]at hY
    have e:=(th N).2 x (cV o) (by omega) hq.1 (by omega)
    have ax:=(th N).2 y (cV o+1) (by omega) hq.2 (by omega)
    show aj Tryz.prog _ _ _ _ (tJ (.str (fX x (cm x) (cV o)++[32]++o++[32]++fX y (cm y) (cV o+1))) [] []) _ _
    generalize fX x (cm x) (cV o)=iD at e hY ⊢
    generalize fX y (cm y) (cV o+1)=Ge at ax hY ⊢
    have hp:=uG o
    have oR:=Fv o
    generalize cV o=gS at*
    clear ap qL
    rcases x with ⟨eb,ef,ed,eg,ee,ec⟩
    rcases y with ⟨sv,CK,x7,uU,x8,CJ⟩
    simp(disch:=omega)only[go_sem,simprocAttr]at e
    simp(disch:=omega)only[go_sem,simprocAttr]at ax
    iterate 7 refine iT ?_
    repeat refine D.cN true true ?_
    refine aj.b6 ?_
    refine bK ?_
    refine D.P (oR) ?_
    refine bK ?_
    repeat refine D.cN true true ?_
    refine aj.fs (anns:=[.str iD,.str Ge]) ?_
    refine bK ?_
    refine D.df (e) ?_
    refine D.bR ?_
    refine bK ?_
    refine D.bR ?_
    refine D.bR ?_
    refine bK ?_
    refine D.df (ax) ?_
    refine D.bR ?_
    refine ao ?_
    first|refine D.R ?_|refine D.E ?_
    exact⟨_,rfl,.av rfl rfl,trivial,trivial⟩
  refine⟨key,fun x k bW aY ap=> ?_⟩
  have oR:=Fv x.op
  by_cases cq:x.kind=6
  ·by_cases aC:cV x.op<k
   ·have jG:fX x (cm x) k=[40]++cm x++[41]:=if_pos ⟨cq,aC⟩
    rw[jG]at ap ⊢
    simp only[List.length_append,List.length_cons,List.length_nil]at ap
    have e:=key x bW aY (by omega)
    generalize cm x=iD at*
    rcases x with ⟨eb,ef,ed,eg,ee,ec⟩
    simp only[ad.kind,ad.op]at cq aC oR
    subst cq
    simp(disch:=omega)only[go_sem,simprocAttr]at e
    refine cF bN Tryz.func77 Dg (by simp only[b3,I.flat,ad.de,Bool.and_self]) rfl ?_
    unfold AR Cg
    simp(disch:=omega)only[go_sem,simprocAttr]
    refine ao ?_
    refine D.P (oR) ?_
    (have al:=aC;refine bQ ?_;clear al)
    refine D.P (e) ?_
    refine D.bR ?_
    refine D.bR ?_
    refine ao ?_
    first|refine D.R ?_|refine D.E ?_
    exact⟨_,rfl,.av rfl rfl,trivial,trivial⟩
   ·have jG:fX x (cm x) k=cm x:=if_neg fun h=>aC h.2
    rw[jG]at ap ⊢
    have e:=key x bW aY (by omega)
    generalize cm x=iD at*
    rcases x with ⟨eb,ef,ed,eg,ee,ec⟩
    simp only[ad.kind,ad.op]at cq aC oR
    subst cq
    simp(disch:=omega)only[go_sem,simprocAttr]at e
    refine cF bN Tryz.func77 Dg (by simp only[b3,I.flat,ad.de,Bool.and_self]) rfl ?_
    unfold AR Cg
    simp(disch:=omega)only[go_sem,simprocAttr]
    refine ao ?_
    refine D.P (oR) ?_
    (have al:=aC;refine bQ ?_;clear al)
    refine D.P (e) ?_
    refine ao ?_
    first|refine D.R ?_|refine D.E ?_
    exact⟨_,rfl,.av rfl rfl,trivial,trivial⟩
  ·have jG:fX x (cm x) k=cm x:=if_neg fun h=>cq h.1
   rw[jG]at ap ⊢
   have e:=key x bW aY (by omega)
   generalize cm x=iD at*
   rcases x with ⟨eb,ef,ed,eg,ee,ec⟩
   simp only[ad.kind]at cq
   simp(disch:=omega)only[go_sem,simprocAttr]at e
   refine cF bN Tryz.func77 Dg (by simp only[b3,I.flat,ad.de,Bool.and_self]) rfl ?_
   unfold AR Cg
   simp(disch:=omega)only[go_sem,simprocAttr]
   (have al:=cq;refine bQ ?_;clear al)
   refine D.P (e) ?_
   refine ao ?_
   first|refine D.R ?_|refine D.E ?_
   exact⟨_,rfl,.av rfl rfl,trivial,trivial⟩
end
section
attribute [local go_sem] ad.ct ad.b9 ad.de ac.ct ac.b9 ac.de cj eN fZ gJ dp of_flat
theorem My (sep:a7){lL:List a7}{i:Nat}{y:a7}(h:lL[i]? =some y):Lib.join (lL.take (i+1)) sep=(if i=0 then[] else Lib.join (lL.take i) sep++sep)++y:=by
 cases lL with
 |nil=>simp at h
 |cons x r=>
  cases i with
  |zero=>
   simp only[List.getElem?_cons_zero,Option.some.injEq]at h
   subst h
   simp only[List.take_succ_cons,List.take_zero,Lib.join_one,if_true,List.nil_append]
  |succ i=>
   rw[List.getElem?_cons_succ]at h
   rw[List.take_succ_cons,Lib.join_cons,Lib.joinTail_take_succ _ _ _ _ h,if_neg (by omega),List.take_succ_cons,Lib.join_cons]
   simp only[List.append_assoc]
theorem Mz (sep:a7) (lL:List a7) (i:Nat):(Lib.join (lL.take i) sep).length≤(Lib.join lL sep).length:=by
 cases lL with
 |nil=>simp
 |cons x r=>
  cases i with
  |zero=>simp only[List.take_zero,Lib.join_nil,List.length_nil]; omega
  |succ i=>
   rw[List.take_succ_cons,Lib.join_cons,Lib.join_cons,List.length_append,List.length_append]
   have:=Lib.joinTail_take_le sep r i
   omega
theorem at4 (l:List ad) (aP:ad.bB l≤1000000) (aY:l.all dB=true) (ap:(Lib.join (l.map cm) [44,32]).length≤1000000000):Pure Tryz.prog 131 [.ay 6 (l.map ad.row)] (.str (Lib.join (l.map cm) [44,32])):=by
 have j9:=ad.hZ l
 refine cF bN Tryz.func131 Uj (by simp only[b3,I.flat,ad.b9,Bool.and_self]) rfl ?_
 unfold Ja PK
 simp(disch:=omega)only[go_sem,simprocAttr]
 refine ao ?_
 refine aj.dd (X:=Nat×a7) (0,[]) (fun x=>[(0,.ay 6 (l.map ad.row)),(3,.str x.2),(4,.int .i64 (x.1:Int))]) (fun _=>[]) (fun _=>[]) (fun x=>x.1≤l.length∧x.2=Lib.join ((l.map cm).take x.1) [44,32]) (fun x=>l.length-x.1) ⟨Nat.zero_le _,rfl⟩ ⟨rfl,rfl,rfl,trivial⟩ trivial trivial ?_
 rintro⟨i,o⟩ ⟨ai,aB⟩
 try simp only at ai aB ⊢
 have aH:o.length≤1000000000:=by
  rw[aB]
  exact Nat.le_trans (Mz _ _ _) ap
 cases af:l[i]? with
 |some v=>
  have cK:=(List.getElem?_eq_some_iff.1 af).1
  have gN:=List.mem_of_getElem? af
  have d1:(i:Int)<((l.map ad.row).length:Int):=by rw[List.length_map]; omega
  have Zv:=Nat.le_trans (Mx (sep:=[44,32]) (List.mem_map_of_mem (f:=cm) gN)) ap
  have e:=(th 1000000).1 v (by have:=ad.pW gN; omega) (by simpa using List.all_eq_true.1 aY v gN) Zv
  have mv:=My [44,32] (show (l.map cm)[i]? =some (cm v) by rw[List.getElem?_map,af]; rfl)
  rw[←aB]at mv
  generalize cm v=tp at*
  rcases v with ⟨eb,ef,ed,eg,ee,ec⟩
  simp(disch:=omega)only[go_sem,simprocAttr]at e
  by_cases aw:i=0
  ·have d2: ¬(0:Int)<(i:Int):=by omega
   rw[if_pos aw,List.nil_append]at mv
   have aq:o=[]:=by rw[aB,aw]; rfl
   (have al:=d1;have z2:=d2;refine e8 ?_;clear al z2)
   refine D.P (e) ?_
   refine D.bR ?_ (hb:=by simp only[maxLen]; omega)
   refine ao ?_
   refine aj.dK (i+1,o++tp) ⟨by omega,by rw[mv,aq]; rfl⟩ ⟨rfl,rfl,by simp only[Int.natCast_add]; rfl,trivial⟩ trivial trivial rfl rfl (by show l.length-(i+1)<l.length-i; omega)
  ·have d2:(0:Int)<(i:Int):=by omega
   rw[if_neg aw]at mv
   (have al:=d1;have z2:=d2;refine e8 ?_;clear al z2)
   refine D.bR ?_
   refine ao ?_
   refine D.P (e) ?_
   refine D.bR ?_
   refine ao ?_
   refine aj.dK (i+1,o++[44,32]++tp) ⟨by omega,mv.symm⟩ ⟨rfl,rfl,by simp only[Int.natCast_add]; rfl,trivial⟩ trivial trivial rfl rfl (by show l.length-(i+1)<l.length-i; omega)
 |none=>
  have cM:=List.getElem?_eq_none_iff.1 af
  have bE:i=l.length:=by omega
  subst bE
  have d1: ¬(l.length:Int)<((l.map ad.row).length:Int):=by rw[List.length_map]; omega
  rw[List.take_of_length_le (by rw[List.length_map]; omega)]at aB
  (have al:=d1;refine bQ ?_;clear al)
  first|refine D.R ?_|refine D.E ?_
  exact⟨_,rfl,.av (by rw[aB]; rfl) rfl,trivial,trivial⟩
end
section
attribute [local go_sem] ad.ct ad.b9 ad.de ac.ct ac.b9 ac.de cj eN fZ gJ dp of_flat
def kp (d:Nat):a7:=List.replicate d 9
theorem R7 (d:Nat):kp d++[9]=kp (d+1):=by
 unfold kp
 rw[List.replicate_succ']
theorem R6 (d:Nat):(kp d).length=d:=by simp [kp]
def kc (d:Nat) (l:List ac):a7:=[123,10]++ac.fF (d+1) l++kp d++[125]
mutual
def ac.l2 (d:Nat):ac→a7
 | .mk k m x t a b=>if k=1 then m++[32,61,32]++cm x++[59]
  else if k=3 then[119,104,105,108,101,32]++cm x++[32,116,105,109,101,115,32]++Lib.itoa t++[32]++kc d a
  else[105,102,32]++cm x++[32]++kc d a++(if b.isEmpty=true then[] else[32,101,108,115,101,32]++(if jH b=true then ac.zf d b else kc d b))
def ac.zf (d:Nat):List ac→a7
 |[]=>[]
 |y:: _=>ac.l2 d y
end
mutual
theorem ac.Ff (d:Nat): ∀x:ac,((x.kind=1∨x.kind=3)→∀bw,ac.gS d bw x=kp d++ac.l2 d x++[10])∧(¬x.kind=1→¬x.kind=3→∃r,ac.l2 d x=[105,102,32]++r∧∀bw,ac.gS d bw x=kp d++bw++r++[10])
 | .mk k m x t a b=>by
  have dc:=ac.Xo d b
  simp only[ac.kind]
  refine⟨fun h bw=> ?_,fun J au=> ?_⟩
  ·by_cases J:k=1
   ·simp only[ac.gS,ac.l2,J,if_true,eE,List.flatten_cons,List.flatten_nil,List.append_assoc,List.append_nil]
    rfl
   ·have au:k=3:=h.resolve_left J
    simp only[ac.gS,ac.l2,au,show ¬(3:Int)=1 by decide,if_false,if_true,eE,List.flatten_cons,List.flatten_nil,List.append_assoc,List.append_nil,kc]
    rfl
  ·simp only[ac.gS,ac.l2,J,au,if_false,List.append_assoc]
   refine⟨_,rfl,fun bw=> ?_⟩
   cases b with
   |nil=>
    simp only[jH,List.isEmpty_nil,if_true,Bool.false_eq_true,if_false,eE,kc,List.flatten_cons,List.flatten_nil,List.append_assoc,List.append_nil,List.nil_append]
    rfl
   |cons y l=>
    simp only[List.isEmpty_cons,Bool.false_eq_true,if_false]
    cases hb:jH (y::l) with
    |true=>
     obtain⟨r,ar,ax⟩:=dc hb
     simp only[if_true,ar,ax,eE,kc,List.flatten_cons,List.flatten_nil,List.append_assoc,List.append_nil]
     simp [kp]
    |false=>
     simp only[Bool.false_eq_true,if_false,eE,kc,List.flatten_cons,List.flatten_nil,List.append_assoc,List.append_nil]
     simp [kp]
theorem ac.Xo (d:Nat): ∀l:List ac,jH l=true→∃r,ac.zf d l=[105,102,32]++r∧ac.rC d l=kp d++[125,32,101,108,115,101,32,105,102,32]++r++[10]
 |[],h=>by simp [jH]at h
 |y::l,h=>by
  have aZ:=ac.Ff d y
  have aC:y.kind=2:=by
   cases l with
   |nil=>simpa [jH] using h
   |cons z l=>simp [jH]at h
  obtain⟨r,ar,ax⟩:=aZ.2 (by omega) (by omega)
  exact⟨r,by simp only[ac.zf,ar],by simp only[ac.rC,ax]⟩
end
theorem ac.OH (d:Nat) (x:ac):ac.gS d [105,102,32] x=kp d++ac.l2 d x++[10]:=by
 by_cases h:x.kind=1∨x.kind=3
 ·exact (ac.Ff d x).1 h _
 ·obtain⟨r,ar,ax⟩:=(ac.Ff d x).2 (fun e=>h (.inl e)) (fun e=>h (.inr e))
  rw[ar,ax]
  simp only[List.append_assoc]
def k6 (N:Nat):Prop:=∀(x:ac) (d:Nat),x.bI≤N→hX x=true→d+x.bI≤1000000→(ac.l2 d x).length≤1000000000→Pure Tryz.prog 184 [.agg x.row,.str (kp d)] (.str (ac.l2 d x))
def CQ (N:Nat):Prop:=∀(l:List ac) (d:Nat),ac.bB l≤N→ho l=true→d+1+ac.bB l≤1000000→(kc d l).length≤1000000000→Pure Tryz.prog 130 [.ay 11 (l.map ac.row),.str (kp d)] (.str (kc d l))
theorem Pe {N:Nat}(mo:k6 N):CQ N:=by
 intro l d bW aY bw aH
 have j9:=ac.hZ l
 have L9:=R6 d
 simp only[kc,List.length_append,List.length_cons,List.length_nil]at aH
 refine cF bN Tryz.func130 Ui (by simp only[b3,I.flat,ac.b9,Bool.and_self]) rfl ?_
 unfold I9 PJ
 simp(disch:=omega)only[go_sem,simprocAttr]
 refine ao ?_
 refine aj.dd (X:=Nat×a7) (0,[123,10]) (fun x=>[(0,.ay 11 (l.map ac.row)),(1,.str (kp d)),(5,.str x.2),(6,.int .i64 (x.1:Int))]) (fun _=>[]) (fun _=>[]) (fun x=>x.1≤l.length∧x.2=[123,10]++ac.fF (d+1) (l.take x.1)) (fun x=>l.length-x.1) ⟨Nat.zero_le _,rfl⟩ ⟨rfl,rfl,rfl,rfl,trivial⟩ trivial trivial ?_
 rintro⟨i,o⟩ ⟨ai,aB⟩
 try simp only at ai aB ⊢
 have sY:o.length≤1000000010:=by
  have:=Fh (d+1) l i
  rw[aB,List.length_append,List.length_cons,List.length_cons,List.length_nil]
  omega
 cases af:l[i]? with
 |some v=>
  have cK:=(List.getElem?_eq_some_iff.1 af).1
  have gN:=List.mem_of_getElem? af
  have Ex:=ac.pW gN
  have d1:(i:Int)<((l.map ac.row).length:Int):=by rw[List.length_map]; omega
  have hle:=OJ (d+1) af
  rw[ac.OH]at hle
  simp only[List.length_append,List.length_cons,List.length_nil]at hle
  have e:=mo v (d+1) (by omega) (by rw[yK]at aY; exact List.all_eq_true.1 aY v gN) (by omega) (by omega)
  have mv:[123,10]++ac.fF (d+1) (l.take (i+1))=o++(kp (d+1)++ac.l2 (d+1) v++[10]):=by rw[Fi _ af,ac.OH,←List.append_assoc,aB]
  have aQ8:=R6 (d+1)
  have pS:(ac.l2 (d+1) v).length≤1000000000:=by omega
  generalize ac.l2 (d+1) v=tp at*
  rcases v with ⟨aS9,aT0,⟨eb,ef,ed,eg,ee,ec⟩,aT2,aS8,CG⟩
  simp(disch:=omega)only[go_sem,simprocAttr]at e
  (have al:=d1;refine bQ ?_;clear al)
  refine D.bR ?_
  rw[R7]
  refine ao ?_
  refine D.bR ?_
  rw[R7]
  refine ao ?_
  refine D.P (e) ?_
  refine D.bR ?_ (hb:=by simp only[maxLen]; omega)
  refine D.bR ?_
  refine D.bR ?_
  refine ao ?_
  refine aj.dK (i+1,o++(kp (d+1)++tp++[10])) ⟨by omega,mv.symm⟩ ⟨rfl,rfl,rfl,by simp only[Int.natCast_add]; rfl,trivial⟩ trivial trivial rfl rfl (by show l.length-(i+1)<l.length-i; omega)
 |none=>
  have cM:=List.getElem?_eq_none_iff.1 af
  have bE:i=l.length:=by omega
  subst bE
  have d1: ¬(l.length:Int)<((l.map ac.row).length:Int):=by rw[List.length_map]; omega
  rw[List.take_length]at aB
  (have al:=d1;refine bQ ?_;clear al)
  refine D.bR ?_ (hb:=by simp only[maxLen]; omega)
  refine D.bR ?_
  refine ao ?_
  first|refine D.R ?_|refine D.E ?_
  exact⟨_,rfl,.av (by rw[aB]; rfl) rfl,trivial,trivial⟩
end
section
attribute [local go_sem] ad.ct ad.b9 ad.de ac.ct ac.b9 ac.de cj eN fZ gJ dp of_flat
theorem aq7 {N:Nat}(dX:CQ N) (mo:k6 N):k6 (N+1):=by
 rintro⟨k,h7,x,t,hU,gD⟩ d bW aY bw aH
 simp only[ac.bI]at bW bw
 simp only[hX,Bool.and_eq_true]at aY
 obtain⟨bh,pQ,pP,lY⟩:=aY
 have xa:x.bI≤1000000:=by omega
 rcases Bi bh with ⟨rfl,rfl,aa,au⟩|⟨rfl,rfl,rfl⟩|⟨rfl,rfl,J,aa,au⟩
 ·simp only[ac.l2,if_true,List.length_append,List.length_cons,List.length_nil]at aH ⊢
  have e:=(th 1000000).1 x xa pQ (by omega)
  generalize cm x=iD at*
  rcases x with ⟨eb,ef,ed,eg,ee,ec⟩
  simp(disch:=omega)only[go_sem,simprocAttr]at e
  refine cF bN Tryz.func184 wD (by simp only[b3,I.flat,ac.de,Bool.and_self]) rfl ?_
  unfold vf vV
  simp(disch:=omega)only[go_sem,simprocAttr]
  iterate 3 refine iT ?_
  repeat refine D.cN true true ?_
  refine aj.fs (anns:=[.str iD]) ?_
  refine bK ?_
  refine D.bR ?_
  refine bK ?_
  refine D.df (e) ?_
  refine D.bR ?_
  refine D.bR ?_
  refine ao ?_
  first|refine D.R ?_|refine D.E ?_
  exact⟨_,rfl,.av rfl rfl,trivial,trivial⟩
 ·simp only[ac.l2,show ¬(2:Int)=1 by decide,show ¬(2:Int)=3 by decide,if_false]at aH ⊢
  obtain⟨T,c4⟩: ∃T,T=(if gD.isEmpty=true then[] else[32,101,108,115,101,32]++(if jH gD=true then ac.zf d gD else kc d gD)):=⟨_,rfl⟩
  rw[←c4]at aH ⊢
  simp only[List.length_append,List.length_cons,List.length_nil]at aH
  have e:=(th 1000000).1 x xa pQ (by omega)
  by_cases dc:jH gD=true
  ·match gD,dc with
   |[y],dc=>
   have y7:y.kind=2:=by simpa [jH] using dc
   simp only[List.isEmpty_cons,Bool.false_eq_true,if_false,dc,if_true,ac.zf]at c4
   simp only[ac.bB]at bW bw
   simp only[ho,Bool.and_true]at lY
   have mm:=dX hU d (by omega) pP (by omega) (by omega)
   have rD:=mo y d (by omega) lY (by omega) (by have:=congrArg List.length c4; simp only[List.length_append,List.length_cons,List.length_nil]at this; omega)
   generalize cm x=iD at*
   generalize kc d hU=qO at*
   generalize ac.l2 d y=MO at*
   subst c4
   simp only[List.length_append,List.length_cons,List.length_nil]at aH
   rcases x with ⟨eb,ef,ed,eg,ee,ec⟩
   rcases y with ⟨sv,x7,⟨SW,mO,SY,S0,SZ,SX⟩,uU,tB,su⟩
   simp only[ac.kind]at y7
   subst y7
   simp(disch:=omega)only[go_sem,simprocAttr]at e
   simp(disch:=omega)only[go_sem,simprocAttr]at rD
   refine cF bN Tryz.func184 wD (by simp only[b3,I.flat,ac.de,Bool.and_self]) rfl ?_
   unfold vf vV
   simp(disch:=omega)only[go_sem,simprocAttr]
   iterate 4 refine iT ?_
   repeat refine D.cN true true ?_
   refine aj.fs (anns:=[.str iD,.str qO]) ?_
   refine bK ?_
   refine D.df (e) ?_
   refine D.bR ?_
   refine D.bR ?_
   refine bK ?_
   refine D.df (mm) ?_
   refine D.bR ?_
   refine ao ?_
   refine D.bR ?_
   refine ao ?_
   refine D.P (rD) ?_
   refine D.bR ?_
   refine ao ?_
   first|refine D.R ?_|refine D.E ?_
   exact⟨_,rfl,.av (by simp [I.av]) rfl,trivial,trivial⟩
  cases D0:jH gD with
  |true=>exact absurd D0 dc
  |false=>
  rw[D0]at c4
  simp only[Bool.false_eq_true,if_false]at c4
  have mm:=dX hU d (by omega) pP (by omega) (by omega)
  cases yT:gD.isEmpty with
  |true=>
   rw[yT]at c4
   simp only[if_true]at c4
   subst c4
   have qI:gD=[]:=by simpa using yT
   subst qI
   generalize cm x=iD at*
   generalize kc d hU=qO at*
   rcases x with ⟨eb,ef,ed,eg,ee,ec⟩
   simp(disch:=omega)only[go_sem,simprocAttr]at e
   refine cF bN Tryz.func184 wD (by simp only[b3,I.flat,ac.de,Bool.and_self]) rfl ?_
   unfold vf vV
   simp(disch:=omega)only[go_sem,simprocAttr]
   iterate 4 refine iT ?_
   repeat refine D.cN true true ?_
   refine aj.fs (anns:=[.str iD,.str qO]) ?_
   refine bK ?_
   refine D.df (e) ?_
   refine D.bR ?_
   refine D.bR ?_
   refine bK ?_
   refine D.df (mm) ?_
   refine D.bR ?_
   refine ao ?_
   first|refine D.R ?_|refine D.E ?_
   exact⟨_,rfl,.av (by simp [I.av]) rfl,trivial,trivial⟩
  |false=>
  rw[yT]at c4
  simp only[Bool.false_eq_true,if_false]at c4
  have rD:=dX gD d (by omega) lY (by omega) (by have:=congrArg List.length c4; simp only[List.length_append,List.length_cons,List.length_nil]at this; omega)
  by_cases J:gD.length=1
  ·match gD,J with
   |[y],_=>
   have y7: ¬y.kind=2:=by simpa [jH] using D0
   generalize cm x=iD at*
   generalize kc d hU=qO at*
   generalize kc d [y]=MO at*
   subst c4
   simp only[List.length_append,List.length_cons,List.length_nil]at aH
   rcases x with ⟨eb,ef,ed,eg,ee,ec⟩
   rcases y with ⟨sv,x7,⟨SW,mO,SY,S0,SZ,SX⟩,uU,tB,su⟩
   simp only[ac.kind]at y7
   simp only[List.map_cons,List.map_nil]at rD
   simp(disch:=omega)only[go_sem,simprocAttr]at e
   simp(disch:=omega)only[go_sem,simprocAttr]at rD
   refine cF bN Tryz.func184 wD (by simp only[b3,I.flat,ac.de,Bool.and_self]) rfl ?_
   unfold vf vV
   simp(disch:=omega)only[go_sem,simprocAttr]
   iterate 4 refine iT ?_
   repeat refine D.cN true true ?_
   refine aj.fs (anns:=[.str iD,.str qO]) ?_
   refine bK ?_
   refine D.df (e) ?_
   refine D.bR ?_
   refine D.bR ?_
   refine bK ?_
   refine D.df (mm) ?_
   refine D.bR ?_
   (have al:=y7;refine bQ ?_;clear al)
   refine D.bR ?_
   refine ao ?_
   refine D.P (rD) ?_
   refine D.bR ?_
   refine ao ?_
   first|refine D.R ?_|refine D.E ?_
   exact⟨_,rfl,.av (by simp [I.av]) rfl,trivial,trivial⟩
  ·have aw:gD.length≠0:=by
    intro bE
    rw[List.length_eq_zero_iff.1 bE]at yT
    simp at yT
   have d0: ¬((gD.map ac.row).length:Int)=0:=by rw[List.length_map]; omega
   have d1: ¬((gD.map ac.row).length:Int)=1:=by rw[List.length_map]; omega
   generalize cm x=iD at*
   generalize kc d hU=qO at*
   generalize kc d gD=MO at*
   subst c4
   simp only[List.length_append,List.length_cons,List.length_nil]at aH
   rcases x with ⟨eb,ef,ed,eg,ee,ec⟩
   simp(disch:=omega)only[go_sem,simprocAttr]at e
   refine cF bN Tryz.func184 wD (by simp only[b3,I.flat,ac.de,Bool.and_self]) rfl ?_
   unfold vf vV
   simp(disch:=omega)only[go_sem,simprocAttr]
   iterate 4 refine iT ?_
   repeat refine D.cN true true ?_
   refine aj.fs (anns:=[.str iD,.str qO]) ?_
   refine bK ?_
   refine D.df (e) ?_
   refine D.bR ?_
   refine D.bR ?_
   refine bK ?_
   refine D.df (mm) ?_
   refine D.bR ?_
   (have al:=d0;have z2:=d1;refine e8 ?_;clear al z2)
   refine D.bR ?_
   refine ao ?_
   refine D.P (rD) ?_
   refine D.bR ?_
   refine ao ?_
   first|refine D.R ?_|refine D.E ?_
   exact⟨_,rfl,.av (by simp [I.av]) rfl,trivial,trivial⟩
 ·simp only[ac.l2,show ¬(3:Int)=1 by decide,if_false,if_true,List.length_append,List.length_cons,List.length_nil]at aH ⊢
  have e:=(th 1000000).1 x xa pQ (by omega)
  have en:=zw t (by omega) (by omega)
  have mm:=dX hU d (by omega) pP (by omega) (by omega)
  generalize cm x=iD at*
  generalize Lib.itoa t=jS at*
  generalize kc d hU=qO at*
  rcases x with ⟨eb,ef,ed,eg,ee,ec⟩
  simp(disch:=omega)only[go_sem,simprocAttr]at e
  refine cF bN Tryz.func184 wD (by simp only[b3,I.flat,ac.de,Bool.and_self]) rfl ?_
  unfold vf vV
  simp(disch:=omega)only[go_sem,simprocAttr]
  iterate 4 refine iT ?_
  repeat refine D.cN true true ?_
  refine aj.fs (anns:=[.str iD,.str jS,.str qO]) ?_
  refine bK ?_
  refine D.df (e) ?_
  refine D.bR ?_
  refine D.bR ?_
  refine bK ?_
  refine D.df (en) ?_
  refine D.bR ?_
  refine D.bR ?_
  refine bK ?_
  refine D.df (mm) ?_
  refine D.bR ?_
  refine ao ?_
  first|refine D.R ?_|refine D.E ?_
  exact⟨_,rfl,.av (by simp [I.av]) rfl,trivial,trivial⟩
theorem Fe: ∀N,k6 N∧CQ N
 |0=>by
  have h:k6 0:=by
   rintro⟨k,h7,x,t,hU,gD⟩ d bW
   simp only[ac.bI]at bW
   omega
  exact⟨h,Pe h⟩
 |N+1=>by
  have h:=aq7 (Fe N).2 (Fe N).1
  exact⟨h,Pe h⟩
end
section
attribute [local go_sem] ad.ct ad.b9 ad.de ac.ct ac.b9 ac.de cj eN fZ gJ dp of_flat cb.row dG
theorem aL6 (v:cb):jT v=[9,118,97,114,32]++v.name++[58,32]++(if v.hV=2 then[116,101,120,116] else[105,110,116])++[32]++Lib.itoa v.cz++[32,46,46,32]++Lib.itoa v.ai++[32,61,32]++qM v.ik v.n v.s++[59,10]:=by
 unfold jT eE
 split<;>simp
theorem Ls (h:cd):jb h=([9,111,110,32]++h.eK++[40])++Lib.join h.ps [44,32]++([41,32,102,114,111,109,32]++h.peer++[32]++kc 1 h.body++[10]):=by
 unfold jb eE kc
 simp [kp]
theorem ak0 (o:ca):jJ o=([9,111,102,102,101,114,32]++o.eK++[40]++Lib.join (o.args.map cm) [44,32]++[41,32,116,111,32]++o.peer)++p9 o.dT++[59,10]:=by
 unfold jJ eE
 simp
theorem O2 (x:e9) (ab:CU x):Pure Tryz.prog 57 [x.ir] (.str (iK x)):=by
 have eC:=ab.len
 have Em:=ab.nS
 have Ek:=ab.nh
 have ck:=ab.no
 obtain⟨F,oV⟩: ∃F,F=iK x:=⟨_,rfl⟩
 rw[←oV]at eC ⊢
 unfold iK at oV
 obtain⟨H0,w7⟩: ∃H0,H0=eE 0 [[115,101,114,118,105,99,101,32],x.name,[32,112,108,97,121,115,32],x.hD,[32,111,102,32],x.hA,[32,123]]:=⟨_,rfl⟩
 obtain⟨E,dc⟩: ∃E,E=eE 0 [[125]]:=⟨_,rfl⟩
 rw[←w7,←dc]at oV
 have Be:=congrArg List.length oV
 simp only[List.length_append]at Be
 have D1:H0=[115,101,114,118,105,99,101,32]++x.name++[32,112,108,97,121,115,32]++x.hD++[32,111,102,32]++x.hA++[32,123,10]:=by rw[w7]; unfold eE; simp
 have Yr:=congrArg List.length D1
 simp only[List.length_append,List.length_cons,List.length_nil]at Yr
 rw[lq]
 refine cF bN Tryz.func57 Vw (by simp only[b3,I.flat,dG,dp,of_flat,Bool.and_self]) rfl ?_
 unfold wO QX
 simp(disch:=omega)only[go_sem,simprocAttr]
 iterate 2 refine iT ?_
 refine D.bR ?_
 refine D.bR ?_
 refine bK ?_
 refine D.bR ?_
 refine D.bR ?_
 refine bK ?_
 refine D.bR ?_
 refine D.bR ?_
 refine ao ?_
 have aP1: ∃ij,ij=H0∧ij=[115,101,114,118,105,99,101,32]++x.name++[32,112,108,97,121,115,32]++x.hD++[32,111,102,32]++x.hA++[32,123,10]:=⟨_,rfl,D1⟩
 refine aj.dd (X:=Nat×a7) (0,H0) (fun y=>[(1,.ptr 0 0),(3,.str y.2),(4,.int .i64 (y.1:Int))]) (fun _=>[(0,35,x.cells)]) (fun _=>[]) (fun y=>y.1≤x.vars.length∧y.2=H0++((x.vars.take y.1).map jT).flatten) (fun y=>x.vars.length-y.1) ⟨Nat.zero_le _,by simp⟩ ⟨rfl,by simp only[D1,List.cons_append,List.nil_append]; rfl,rfl,trivial⟩ ⟨by simp only[fG]; rfl,trivial⟩ trivial ?_
 rintro⟨i,o⟩ ⟨ai,aB⟩
 try simp only at ai aB ⊢
 have sY:=BJ jT x.vars i
 have uo:=congrArg List.length aB
 rw[List.length_append]at uo
 have L1:o.length≤900000000:=by omega
 clear sY uo
 simp only[fG]
 cases af:x.vars[i]? with
 |some v=>
  have cK:=(List.getElem?_eq_some_iff.1 af).1
  have gN:=List.mem_of_getElem? af
  have mZ:iN v=true:=by simpa using List.all_eq_true.1 ab.ay v gN
  have d1:(i:Int)<((x.vars.map cb.row).length:Int):=by rw[List.length_map]; omega
  have fy:H0++((x.vars.take (i+1)).map jT).flatten=o++jT v:=by rw[vI jT af,aB,List.append_assoc]
  obtain⟨g1,g2,g3,g4,g5,g6⟩:=DW mZ
  have kj:=SA mZ
  rw[aL6]at fy kj
  have DU: -1000000000≤v.n∧v.n≤1000000000:=by
   by_cases h:v.ik=2
   ·simp only[iN,Bool.and_eq_true,h,show ¬(2:Int)=1 by decide,if_true,if_false,decide_eq_true_eq]at mZ
    omega
   ·exact g5 h
  have fR:=zw v.cz g1 g2
  have il:=zw v.ai g3 g4
  have gl:=zw v.n DU.1 DU.2
  have mB:=O9 v.s (by omega)
  simp only[qM]at fy kj
  rcases v with ⟨h7,hV,cz,gB,ik,n,s⟩
  simp only at fR il gl mB fy kj
  generalize Lib.itoa cz=s1 at*
  generalize Lib.itoa gB=s2 at*
  generalize Lib.itoa n=oA at*
  generalize p4 s=Cl at*
  clear DU g1 g2 g3 g4 g5 g6 mZ
  by_cases aC:hV=2
  ·subst aC
   rw[if_pos rfl]at fy kj
   by_cases aa:ik=2
   ·subst aa
    rw[if_pos rfl]at fy kj
    simp only[List.length_append,List.length_cons,List.length_nil]at kj
    (have al:=d1;refine bQ ?_;clear al)
    refine D.P (gl) ?_
    refine bK ?_
    iterate 3 refine iT ?_
    (repeat (apply aj.s true true;(·simp(disch:=omega)only[go_sem,simprocAttr,]<;>with_reducible rfl)))
    refine aj.b6 ?_
    refine bK ?_
    refine D.P (mB) ?_
    refine bK ?_
    (repeat (apply aj.s true true;(·simp(disch:=omega)only[go_sem,simprocAttr,]<;>with_reducible rfl)))
    refine aj.fs (anns:=[.str s1,.str s2]) ?_
    refine bK ?_
    refine D.bR ?_
    refine D.bR ?_
    refine bK ?_
    refine D.bR ?_
    refine D.bR ?_
    refine bK ?_
    refine D.df (fR) ?_
    refine D.bR ?_
    refine D.bR ?_
    refine bK ?_
    refine D.df (il) ?_
    refine D.bR ?_
    refine D.bR ?_
    refine bK ?_
    refine D.bR ?_
    refine D.bR ?_
    refine D.bR ?_
    refine ao ?_
    refine aj.gT (i+1,o++([9,118,97,114,32]++h7++[58,32]++[116,101,120,116]++[32]++s1++[32,46,46,32]++s2++[32,61,32]++Cl++[59,10])) ⟨by omega,fy.symm⟩ ⟨rfl,rfl,by simp only[Int.natCast_add]; rfl,trivial⟩ ⟨rfl,trivial⟩ trivial rfl (by simp only[fY,dr,dP,dV,fO,I.cR,b2.bJ,fG,lT,dG,dp,of_flat,go_sem]<;>rfl) (by show x.vars.length-(i+1)<x.vars.length-i; omega)
   ·rw[if_neg aa]at fy kj
    simp only[List.length_append,List.length_cons,List.length_nil]at kj
    (have al:=d1;refine bQ ?_;clear al)
    refine D.P (gl) ?_
    refine bK ?_
    (have al:=aa;refine gA ?_;refine gA ?_;refine gA ?_;clear al)
    (have al:=aa;refine yd ?_;clear al)
    refine aj.fs (anns:=[.str s1,.str s2]) ?_
    refine bK ?_
    refine D.bR ?_
    refine D.bR ?_
    refine bK ?_
    refine D.bR ?_
    refine D.bR ?_
    refine bK ?_
    refine D.df (fR) ?_
    refine D.bR ?_
    refine D.bR ?_
    refine bK ?_
    refine D.df (il) ?_
    refine D.bR ?_
    refine D.bR ?_
    refine bK ?_
    refine D.bR ?_
    refine D.bR ?_
    refine D.bR ?_
    refine ao ?_
    refine aj.gT (i+1,o++([9,118,97,114,32]++h7++[58,32]++[116,101,120,116]++[32]++s1++[32,46,46,32]++s2++[32,61,32]++oA++[59,10])) ⟨by omega,fy.symm⟩ ⟨rfl,rfl,by simp only[Int.natCast_add]; rfl,trivial⟩ ⟨rfl,trivial⟩ trivial rfl (by simp only[fY,dr,dP,dV,fO,I.cR,b2.bJ,fG,lT,dG,dp,of_flat,go_sem]<;>rfl) (by show x.vars.length-(i+1)<x.vars.length-i; omega)
  ·rw[if_neg aC]at fy kj
   by_cases aa:ik=2
   ·subst aa
    rw[if_pos rfl]at fy kj
    simp only[List.length_append,List.length_cons,List.length_nil]at kj
    (have al:=d1;refine bQ ?_;clear al)
    refine D.P (gl) ?_
    refine bK ?_
    (have al:=aC;refine gA ?_;refine gA ?_;clear al)
    (have al:=aC;refine yd ?_;clear al)
    refine aj.b6 ?_
    refine bK ?_
    refine D.P (mB) ?_
    refine bK ?_
    (repeat (apply aj.s true true;(·simp(disch:=omega)only[go_sem,simprocAttr,]<;>with_reducible rfl)))
    refine aj.fs (anns:=[.str s1,.str s2]) ?_
    refine bK ?_
    refine D.bR ?_
    refine D.bR ?_
    refine bK ?_
    refine D.bR ?_
    refine D.bR ?_
    refine bK ?_
    refine D.df (fR) ?_
    refine D.bR ?_
    refine D.bR ?_
    refine bK ?_
    refine D.df (il) ?_
    refine D.bR ?_
    refine D.bR ?_
    refine bK ?_
    refine D.bR ?_
    refine D.bR ?_
    refine D.bR ?_
    refine ao ?_
    refine aj.gT (i+1,o++([9,118,97,114,32]++h7++[58,32]++[105,110,116]++[32]++s1++[32,46,46,32]++s2++[32,61,32]++Cl++[59,10])) ⟨by omega,fy.symm⟩ ⟨rfl,rfl,by simp only[Int.natCast_add]; rfl,trivial⟩ ⟨rfl,trivial⟩ trivial rfl (by simp only[fY,dr,dP,dV,fO,I.cR,b2.bJ,fG,lT,dG,dp,of_flat,go_sem]<;>rfl) (by show x.vars.length-(i+1)<x.vars.length-i; omega)
   ·rw[if_neg aa]at fy kj
    simp only[List.length_append,List.length_cons,List.length_nil]at kj
    (have al:=d1;refine bQ ?_;clear al)
    refine D.P (gl) ?_
    refine bK ?_
    (have al:=aC;have z2:=aa;refine fo ?_;refine fo ?_;clear al z2)
    (have al:=aC;have z2:=aa;refine ye ?_;clear al z2)
    refine aj.fs (anns:=[.str s1,.str s2]) ?_
    refine bK ?_
    refine D.bR ?_
    refine D.bR ?_
    refine bK ?_
    refine D.bR ?_
    refine D.bR ?_
    refine bK ?_
    refine D.df (fR) ?_
    refine D.bR ?_
    refine D.bR ?_
    refine bK ?_
    refine D.df (il) ?_
    refine D.bR ?_
    refine D.bR ?_
    refine bK ?_
    refine D.bR ?_
    refine D.bR ?_
    refine D.bR ?_
    refine ao ?_
    refine aj.gT (i+1,o++([9,118,97,114,32]++h7++[58,32]++[105,110,116]++[32]++s1++[32,46,46,32]++s2++[32,61,32]++oA++[59,10])) ⟨by omega,fy.symm⟩ ⟨rfl,rfl,by simp only[Int.natCast_add]; rfl,trivial⟩ ⟨rfl,trivial⟩ trivial rfl (by simp only[fY,dr,dP,dV,fO,I.cR,b2.bJ,fG,lT,dG,dp,of_flat,go_sem]<;>rfl) (by show x.vars.length-(i+1)<x.vars.length-i; omega)
 |none=>
 have cM:=List.getElem?_eq_none_iff.1 af
 have bE:i=x.vars.length:=by omega
 subst bE
 rw[List.take_length]at aB
 have d1: ¬(x.vars.length:Int)<((x.vars.map cb.row).length:Int):=by rw[List.length_map]; omega
 (have al:=d1;refine bQ ?_;clear al)
 clear af cM d1 ai
 revert o
 intro V aP4 ol
 refine aj.dd (X:=Nat×a7) (0,V) (fun y=>[(1,.ptr 0 0),(3,.str y.2),(8,.int .i64 (y.1:Int))]) (fun _=>[(0,35,x.cells)]) (fun _=>[]) (fun y=>y.1≤x.ap.length∧y.2=V++((x.ap.take y.1).map jb).flatten) (fun y=>x.ap.length-y.1) ⟨Nat.zero_le _,by simp⟩ ⟨rfl,rfl,rfl,trivial⟩ ⟨by simp only[fG]; rfl,trivial⟩ trivial ?_
 rintro⟨i,o⟩ ⟨ai,aB⟩
 try simp only at ai aB ⊢
 have sY:=BJ jb x.ap i
 have uo:=congrArg List.length aB
 have Lp:=congrArg List.length ol
 rw[List.length_append]at uo Lp
 have L1:o.length≤900000000:=by omega
 clear sY uo
 simp only[fG]
 cases af:x.ap[i]? with
 |some v=>
  have cK:=(List.getElem?_eq_some_iff.1 af).1
  have gN:=List.mem_of_getElem? af
  have mZ:jZ v=true:=by simpa using List.all_eq_true.1 ab.ap v gN
  have d1:(i:Int)<((x.ap.map cd.row).length:Int):=by rw[List.length_map]; omega
  have fy:V++((x.ap.take (i+1)).map jb).flatten=o++jb v:=by rw[vI jb af,aB,List.append_assoc]
  obtain⟨g1,g2⟩:=yI mZ
  have kj:=zj jb af
  rw[Ls]at fy kj
  have hb:(jb v).length≤900000000:=by rw[Ls]; omega
  have aP:=ab.aP v gN
  rcases v with ⟨eK,peer,ps,body⟩
  simp only at g1 g2 fy kj aP
  have LN:(Lib.join ps [44,32]).length≤900000000∧(kc 1 body).length≤900000000∧eK.length≤900000000∧peer.length≤900000000:=by
   simp only[List.length_append,List.length_cons,List.length_nil]at kj
   omega
  have fR:=(Fe 900000).2 body 1 aP g1 (by omega) (by omega)
  rw[show kp 1=[9] from rfl]at fR
  (have al:=d1;refine bQ ?_;clear al)
  refine D.bR ?_
  refine D.bR ?_
  refine D.bR ?_
  refine ao ?_
  have LO:=Mz [44,32] ps
  obtain⟨wv,D2⟩: ∃wv,wv=o++([9,111,110,32]++eK++[40]):=⟨_,rfl⟩
  have aP2:wv.length≤1900000000:=by
   rw[D2]
   simp only[List.length_append,List.length_cons,List.length_nil]
   omega
  refine aj.dd (X:=Nat×a7) (0,wv) (fun y=>[(1,.ptr 0 0),(9,.ptr 1 0),(3,.str y.2),(8,.int .i64 (i:Int)),(10,.int .i64 (y.1:Int))]) (fun _=>[(1,99,(cd.mk eK peer ps body).row),(0,35,x.cells)]) (fun _=>[]) (fun y=>y.1≤ps.length∧y.2=wv++Lib.join (ps.take y.1) [44,32]) (fun y=>ps.length-y.1) ⟨Nat.zero_le _,by simp [Lib.join_nil]⟩ ⟨rfl,rfl,by simp only[D2,List.cons_append,List.nil_append]; rfl,rfl,rfl,trivial⟩ ⟨by simp only[fZ]; rfl,by simp only[fG]; rfl,trivial⟩ trivial ?_
  rintro⟨j,q⟩ ⟨bq,bG⟩
  try simp only at bq bG ⊢
  have Eo:q.length≤2800000000:=by
   have:=LO j
   rw[bG,List.length_append]
   omega
  simp only[fG,fZ]
  cases hw:ps[j]? with
  |some s=>
   have Zu:=(List.getElem?_eq_some_iff.1 hw).1
   have d2:(j:Int)<((ps.map cj).length:Int):=by rw[List.length_map]; omega
   have xk:=My [44,32] hw
   have pS:s.length≤900000000:=by
    have:=congrArg List.length xk
    have aa:=LO (j+1)
    rw[List.length_append]at this
    omega
   by_cases aw:j=0
   ·have d3: ¬(0:Int)<(j:Int):=by omega
    rw[if_pos aw,List.nil_append]at xk
    have aq:q=wv:=by rw[bG,aw]; simp [Lib.join_nil]
    (have al:=d2;have z2:=d3;refine e8 ?_;clear al z2)
    refine D.bR ?_ (hb:=by simp only[maxLen]; omega)
    refine ao ?_
    refine aj.dK (j+1,q++s) ⟨by omega,by rw[xk,aq]⟩ ⟨rfl,rfl,rfl,rfl,by simp only[Int.natCast_add]; rfl,trivial⟩ ⟨rfl,rfl,trivial⟩ trivial rfl rfl (by show ps.length-(j+1)<ps.length-j; omega)
   ·have d3:(0:Int)<(j:Int):=by omega
    rw[if_neg aw]at xk
    (have al:=d2;have z2:=d3;refine e8 ?_;clear al z2)
    refine D.bR ?_
    refine ao ?_
    refine D.bR ?_
    refine ao ?_
    refine aj.dK (j+1,q++[44,32]++s) ⟨by omega,by rw[xk,bG]; simp only[List.append_assoc]⟩ ⟨rfl,rfl,rfl,rfl,by simp only[Int.natCast_add]; rfl,trivial⟩ ⟨rfl,rfl,trivial⟩ trivial rfl rfl (by show ps.length-(j+1)<ps.length-j; omega)
  |none=>
  have cM:=List.getElem?_eq_none_iff.1 hw
  have bE:j=ps.length:=by omega
  subst bE
  rw[List.take_length]at bG
  have d2: ¬(ps.length:Int)<((ps.map cj).length:Int):=by rw[List.length_map]; omega
  have Bw:V++((x.ap.take (i+1)).map jb).flatten=q++([41,32,102,114,111,109,32]++peer++[32]++kc 1 body++[10]):=by
   rw[fy,bG,D2]
   simp only[List.append_assoc]
  clear fy
  generalize kc 1 body=B at*
  (have al:=d2;refine gA ?_;clear al)
  (have al:=d2;refine yd ?_;clear al)
  refine aj.fs (anns:=[.str B]) ?_
  refine bK ?_
  refine D.bR ?_
  refine D.bR ?_
  refine bK ?_
  refine D.df (fR) ?_
  refine D.bR ?_
  refine D.bR ?_
  refine D.bR ?_
  refine ao ?_
  refine aj.gT (i+1,q++([41,32,102,114,111,109,32]++peer++[32]++B++[10])) ⟨by omega,Bw.symm⟩ ⟨rfl,rfl,by simp only[Int.natCast_add]; rfl,trivial⟩ ⟨rfl,trivial⟩ trivial rfl (by simp only[fY,dr,dP,dV,fO,I.cR,b2.bJ,fG,lT,dG,dp,of_flat,go_sem]<;>rfl) (by show x.ap.length-(i+1)<x.ap.length-i; omega)
 |none=>
 have cM:=List.getElem?_eq_none_iff.1 af
 have bE:i=x.ap.length:=by omega
 subst bE
 rw[List.take_length]at aB
 have d1: ¬(x.ap.length:Int)<((x.ap.map cd.row).length:Int):=by rw[List.length_map]; omega
 (have al:=d1;refine bQ ?_;clear al)
 clear af cM d1 ai
 revert o
 intro W aP5 yM
 have Yv:=congrArg List.length yM
 rw[List.length_append]at Yv
 refine aj.dd (X:=Nat×a7) (0,W) (fun y=>[(1,.ptr 0 0),(3,.str y.2),(11,.int .i64 (y.1:Int))]) (fun _=>[(0,35,x.cells)]) (fun _=>[]) (fun y=>y.1≤x.os.length∧y.2=W++((x.os.take y.1).map jJ).flatten) (fun y=>x.os.length-y.1) ⟨Nat.zero_le _,by simp⟩ ⟨rfl,rfl,rfl,trivial⟩ ⟨by simp only[fG]; rfl,trivial⟩ trivial ?_
 rintro⟨i,o⟩ ⟨ai,aB⟩
 try simp only at ai aB ⊢
 have sY:=BJ jJ x.os i
 have uo:=congrArg List.length aB
 rw[List.length_append]at uo
 have L1:o.length≤900000000:=by omega
 clear sY uo
 simp only[fG]
 cases af:x.os[i]? with
 |some v=>
  have cK:=(List.getElem?_eq_some_iff.1 af).1
  have gN:=List.mem_of_getElem? af
  have mZ:j6 v=true:=by simpa using List.all_eq_true.1 ab.os v gN
  have d1:(i:Int)<((x.os.map ca.row).length:Int):=by rw[List.length_map]; omega
  have fy:W++((x.os.take (i+1)).map jJ).flatten=o++jJ v:=by rw[vI jJ af,aB,List.append_assoc]
  obtain⟨g1,g2,g3⟩:=yJ mZ
  have kj:=zj jJ af
  rw[ak0]at fy kj
  have aP:=ab.o6 v gN
  rcases v with ⟨eK,peer,args,dT⟩
  simp only at g1 g2 g3 fy kj aP
  simp only[List.length_append,List.length_cons,List.length_nil]at kj
  have il:=at4 args (by omega) g1 (by omega)
  generalize Lib.join (args.map cm) [44,32]=A at*
  match dT,g2,g3 with
  |[],_,_=>
   simp only[p9,List.append_nil]at fy
   (have al:=d1;refine gA ?_;refine gA ?_;clear al)
   (repeat (apply aj.s true true;(·simp(disch:=omega)only[go_sem,simprocAttr,]<;>with_reducible rfl)))
   refine aj.fs (anns:=[.str A]) ?_
   refine bK ?_
   refine D.bR ?_
   refine D.bR ?_
   refine bK ?_
   refine D.df (il) ?_
   refine D.bR ?_
   refine D.bR ?_
   refine bK ?_
   refine D.bR ?_
   refine D.bR ?_
   refine ao ?_
   refine D.bR ?_
   refine ao ?_
   refine aj.gT (i+1,o++([9,111,102,102,101,114,32]++eK++[40]++A++[41,32,116,111,32]++peer)++[59,10]) ⟨by omega,by rw[fy]; simp only[List.append_assoc]⟩ ⟨rfl,rfl,by simp only[Int.natCast_add]; rfl,trivial⟩ ⟨rfl,trivial⟩ trivial rfl (by simp only[fY,dr,dP,dV,fO,I.cR,b2.bJ,fG,lT,dG,dp,of_flat,go_sem]<;>rfl) (by show x.os.length-(i+1)<x.os.length-i; omega)
  |[z],g2,_=>
   simp only[List.all_cons,List.all_nil,Bool.and_true]at g2
   simp only[ad.bB]at aP
   simp only[p9,List.length_append,List.length_cons,List.length_nil]at fy kj
   have gl:=(th 1000000).1 z (by omega) g2 (by omega)
   generalize cm z=oB at*
   rcases z with ⟨SW,mO,SY,S0,SZ,SX⟩
   simp(disch:=omega)only[go_sem,simprocAttr]at gl
   (have al:=d1;refine gA ?_;refine gA ?_;clear al)
   (repeat (apply aj.s true true;(·simp(disch:=omega)only[go_sem,simprocAttr,]<;>with_reducible rfl)))
   refine aj.fs (anns:=[.str A]) ?_
   refine bK ?_
   refine D.bR ?_
   refine D.bR ?_
   refine bK ?_
   refine D.df (il) ?_
   refine D.bR ?_
   refine D.bR ?_
   refine bK ?_
   refine D.bR ?_
   refine D.bR ?_
   refine ao ?_
   refine D.P (gl) ?_
   refine D.bR ?_
   refine D.bR ?_
   refine ao ?_
   refine D.bR ?_
   refine ao ?_
   refine aj.gT (i+1,o++([9,111,102,102,101,114,32]++eK++[40]++A++[41,32,116,111,32]++peer)++([32,119,104,101,114,101,32]++oB)++[59,10]) ⟨by omega,by rw[fy]; simp only[List.append_assoc]⟩ ⟨rfl,rfl,by simp only[Int.natCast_add]; rfl,trivial⟩ ⟨rfl,trivial⟩ trivial rfl (by simp only[fY,dr,dP,dV,fO,I.cR,b2.bJ,fG,lT,dG,dp,of_flat,go_sem]<;>rfl) (by show x.os.length-(i+1)<x.os.length-i; omega)
 |none=>
 have cM:=List.getElem?_eq_none_iff.1 af
 have bE:i=x.os.length:=by omega
 subst bE
 rw[List.take_length]at aB
 have d1: ¬(x.os.length:Int)<((x.os.map ca.row).length:Int):=by rw[List.length_map]; omega
 (have al:=d1;refine bQ ?_;clear al)
 refine D.bR ?_
 refine ao ?_
 first|refine D.R ?_|refine D.E ?_
 refine⟨_,rfl,.av ?_ rfl,trivial,trivial⟩
 rw[oV,aB,yM,ol,dc]
 simp [I.av,eE]
end
section
attribute [local go_sem] ad.ct ad.b9 ad.de ac.ct ac.b9 ac.de cj eN fZ gJ dp of_flat
theorem Ft: ∀(N:Nat) (x:ad),x.bI≤N→N≤1000000000→Pure Tryz.prog 138 [.agg x.row] (.int .i64 (iL x:Int))
 |0,.mk k o m t n l,h,_=>by simp only[ad.bI]at h; omega
 |N+1,.mk k o m t n l,bW,rO=>by
  simp only[ad.bI]at bW
  have j9:l.length≤1000000000:=by have:=ad.hZ l; omega
  have yR:=AG l
  simp only[iL]
  refine cF bN Tryz.func138 Up (by simp only[b3,I.flat,ad.de,Bool.and_self]) rfl ?_
  unfold Jg PQ
  simp(disch:=omega)only[go_sem,simprocAttr]
  refine ao ?_
  refine aj.dd (X:=Nat×Nat) (0,0) (fun y=>[(1,.ptr 0 0),(4,.int .i64 (y.1:Int)),(3,.int .i64 (y.2:Int))]) (fun _=>[(0,51,(ad.mk k o m t n l).row)]) (fun _=>[]) (fun y=>y.1≤l.length∧y.2≤oc l∧max y.2 (oc (l.drop y.1))=oc l) (fun y=>l.length-y.1) ⟨Nat.zero_le _,Nat.zero_le _,by simp⟩ ⟨rfl,rfl,rfl,trivial⟩ ⟨by simp only[ad.ct]; rfl,trivial⟩ trivial ?_
  rintro⟨i,a⟩ ⟨ai,aP,aB⟩
  simp only at ai aP aB ⊢
  simp only[ad.ct]
  cases af:l[i]? with
  |some v=>
   have cK:=(List.getElem?_eq_some_iff.1 af).1
   rw[iM af]at aB
   simp only[oc]at aB
   have d1:(i:Int)<((l.map ad.row).length:Int):=by rw[List.length_map]; omega
   have e:=Ft N v (by have:=ad.lh af; omega) (by omega)
   obtain⟨q,bG⟩: ∃q,q=iL v:=⟨_,rfl⟩
   rw[←bG]at e aB
   rcases v with ⟨eb,ef,ed,eg,ee,ec⟩
   simp(disch:=omega)only[go_sem,simprocAttr]at e
   (have al:=d1;refine bQ ?_;clear al)
   refine D.P (e) ?_
   refine ao ?_
   refine aj.gT (i+1,max a q) ⟨by simp only; omega,by simp only; omega,by simp only; omega⟩ ⟨rfl,by simp only[Int.natCast_add]; rfl,by rw[show ((max a q:Nat):Int)=max (a:Int) (q:Int) by omega]; rfl,trivial⟩ ⟨rfl,trivial⟩ trivial rfl (by simp only[fY,dr,dP,dV,fO,I.cR,b2.bJ,go_sem]<;>rfl) (by show l.length-(i+1)<l.length-i; omega)
  |none=>
   have cM:=List.getElem?_eq_none_iff.1 af
   have bE:i=l.length:=by omega
   subst bE
   have d1: ¬(l.length:Int)<((l.map ad.row).length:Int):=by rw[List.length_map]; omega
   rw[List.drop_length]at aB
   simp only[oc]at aB
   (have al:=d1;refine bQ ?_;clear al)
   first|refine D.R ?_|refine D.E ?_
   refine⟨_,rfl,.av ?_ rfl,trivial,trivial⟩
   simp only[I.av,I.int.injEq,true_and]
   omega
theorem az4 (s:a7):Pure Tryz.prog 96 [.str s] (.agg [.int .i64 2,.int .i64 0,.str s]):=by
 refine cF bN Tryz.func96 V0 rfl rfl ?_
 unfold KC Rv
 simp(disch:=omega)only[go_sem,simprocAttr]
 refine ao ?_
 first|refine D.R ?_|refine D.E ?_
 exact⟨_,rfl,.av rfl rfl,trivial,trivial⟩
theorem Fs: ∀(N:Nat) (x:ad),x.bI≤N→N≤1000000000→Pure Tryz.prog 137 [.agg x.row] (.bool (dB x))
 |0,.mk k o m t n l,h,_=>by simp only[ad.bI]at h; omega
 |N+1,.mk k o m t n l,bW,rO=>by
  simp only[ad.bI]at bW
  have j9:l.length≤1000000000:=by have:=ad.hZ l; omega
  have cv: ∀(i:Nat) (v:ad),l[i]? =some v→Pure Tryz.prog 137 [.agg v.row] (.bool (dB v)):=fun i v af=>Fs N v (by have:=ad.lh af; omega) (by omega)
  simp only[dB,DV]
  have z0:((l.map ad.row).length:Int)=(l.length:Int):=by rw[List.length_map]
  refine cF bN Tryz.func137 Uo (by simp only[b3,I.flat,ad.de,Bool.and_self]) rfl ?_
  unfold Jf PP
  simp(disch:=omega)only[go_sem,simprocAttr]
  iterate 4 refine iT ?_
  repeat refine D.cN true false ?_
  refine aj.C5 (X:=Nat×Bool×a7×a7×a7×Int) (fun y=>[(1,.ptr 0 0),(3,.ptr 1 0),(4,.int .i64 (y.1:Int)),(5,.bool y.2.1)]) (fun y=>[(0,51,[.int .i64 k,.str o,.str m,.str t,.int .i64 n,.ay 6 (l.map ad.row)]),(1,51,[.int .i64 k,.str y.2.2.1,.str y.2.2.2.1,.str y.2.2.2.2.1,.int .i64 y.2.2.2.2.2,.aV])]) (fun _=>[]) (fun y=>fL k o m t n l.length=(y.2.1&&(decide (l.length=y.1)&&(decide (y.2.2.1=o)&&(decide (y.2.2.2.1=m)&&(decide (y.2.2.2.2.1=t)&&decide (y.2.2.2.2.2=n))))))) ?_ ?_
  ·rintro⟨c,ok,SH,SG,wt,wn⟩ w8
   simp only at w8 ⊢
   rw[w8]
   clear w8
   cases ok
   ·refine ao ?_
    first|refine D.R ?_|refine D.E ?_
    exact⟨_,rfl,.av (by simp [I.av, *]) rfl,trivial,trivial⟩
   by_cases aH:l.length=c
   rotate_left
   ·have d0: ¬((l.map ad.row).length:Int)=(c:Int):=by rw[List.length_map]; omega
    (have al:=d0;refine bQ ?_;clear al)
    first|refine D.R ?_|refine D.E ?_
    exact⟨_,rfl,.av (by simp [I.av, *]) rfl,trivial,trivial⟩
   have d0:((l.map ad.row).length:Int)=(c:Int):=by rw[List.length_map]; omega
   by_cases aq:SH=o
   rotate_left
   ·(have al:=d0;have z2:=aq;refine e8 ?_;clear al z2)
    first|refine D.R ?_|refine D.E ?_
    exact⟨_,rfl,.av (by simp [I.av, *]) rfl,trivial,trivial⟩
   subst aq
   by_cases hm:SG=m
   rotate_left
   ·(have al:=d0;have z2:=hm;refine e8 ?_;clear al z2)
    first|refine D.R ?_|refine D.E ?_
    exact⟨_,rfl,.av (by simp [I.av, *]) rfl,trivial,trivial⟩
   subst hm
   by_cases aO:wt=t
   rotate_left
   ·(have al:=d0;have z2:=aO;refine e8 ?_;clear al z2)
    first|refine D.R ?_|refine D.E ?_
    exact⟨_,rfl,.av (by simp [I.av, *]) rfl,trivial,trivial⟩
   subst aO
   by_cases a6:wn=n
   rotate_left
   ·(have al:=d0;have z2:=a6;refine e8 ?_;clear al z2)
    first|refine D.R ?_|refine D.E ?_
    exact⟨_,rfl,.av (by simp [I.av, *]) rfl,trivial,trivial⟩
   subst a6
   subst aH
   simp only[decide_true,Bool.true_and]
   (have al:=d0;refine bQ ?_;clear al)
   refine aj.dd (X:=Nat) 0 (fun i=>[(1,.ptr 0 0),(4,.int .i64 (l.length:Int)),(6,.int .i64 (i:Int))]) (fun _=>[(0,51,(ad.mk k SH SG wt wn l).row)]) (fun _=>[]) (fun i=>i≤l.length∧(l.drop i).all dB=l.all dB) (fun i=>l.length-i) ⟨Nat.zero_le _,rfl⟩ ⟨rfl,rfl,rfl,trivial⟩ ⟨by simp only[ad.ct]; rfl,trivial⟩ trivial ?_
   rintro i ⟨ai,aB⟩
   try simp only at ai aB ⊢
   simp only[ad.ct]
   cases af:l[i]? with
   |some v=>
    have cK:=(List.getElem?_eq_some_iff.1 af).1
    have d1:(i:Int)<(l.length:Int):=by omega
    have d2:(i:Int)<((l.map ad.row).length:Int):=by rw[List.length_map]; omega
    have e:=cv i v af
    rw[iM af]at aB
    simp only[List.all_cons]at aB
    generalize dB v=oj at*
    rcases v with ⟨eb,ef,ed,eg,ee,ec⟩
    simp(disch:=omega)only[go_sem,simprocAttr]at e
    (have al:=d1;refine bQ ?_;clear al)
    refine D.P (e) ?_
    cases oj
    ·refine ao ?_
     first|refine D.R ?_|refine D.E ?_
     exact⟨_,rfl,.av (by rw[←aB]; rfl) rfl,trivial,trivial⟩
    ·refine ao ?_
     refine aj.dK (i+1) ⟨by omega,by simpa using aB⟩ ⟨rfl,rfl,by simp only[Int.natCast_add]; rfl,trivial⟩ ⟨rfl,trivial⟩ trivial rfl rfl (by show l.length-(i+1)<l.length-i; omega)
   |none=>
    have cM:=List.getElem?_eq_none_iff.1 af
    have bE:i=l.length:=by omega
    subst bE
    have d1: ¬(l.length:Int)<(l.length:Int):=by omega
    rw[List.drop_length]at aB
    (have al:=d1;refine bQ ?_;clear al)
    first|refine D.R ?_|refine D.E ?_
    exact⟨_,rfl,.av (by rw[←aB]; rfl) rfl,trivial,trivial⟩
  ·intro bq
   by_cases J:k=1
   ·subst J
    by_cases aw:0≤n
    ·by_cases aa:n≤1000
     ·(have al:=aw;have z2:=aa;refine fo ?_;refine fo ?_;refine fo ?_;clear al z2)
      refine aj.gV ?_
      refine bq _ _ (0,true,[],[],[],n) (by simp [fL,aw,aa,eq_comm]) ?_ ?_ ?_ rfl rfl
      all_goals first|exact⟨rfl,rfl,rfl,rfl,trivial⟩|exact⟨rfl,rfl,trivial⟩|exact trivial
     ·(have al:=aw;have z2:=aa;refine fo ?_;refine fo ?_;refine fo ?_;clear al z2)
      refine aj.gV ?_
      refine bq _ _ (0,false,[],[],[],n) (by simp [fL,aw,aa]) ?_ ?_ ?_ rfl rfl
      all_goals first|exact⟨rfl,rfl,rfl,rfl,trivial⟩|exact⟨rfl,rfl,trivial⟩|exact trivial
    ·(have al:=aw;refine gA ?_;refine gA ?_;refine gA ?_;clear al)
     refine aj.gV ?_
     refine bq _ _ (0,false,[],[],[],n) (by simp [fL,aw]) ?_ ?_ ?_ rfl rfl
     all_goals first|exact⟨rfl,rfl,rfl,rfl,trivial⟩|exact⟨rfl,rfl,trivial⟩|exact trivial
   by_cases aa:k=2
   ·subst aa
    have ar:=az4 t
    have ax:=OQ 2 0 t
    have aJ:so 2 0 t=lM t:=by simp [so]
    rw[aJ]at ax
    iterate 3 refine iT ?_
    repeat refine D.cN true true ?_
    refine aj.b6 ?_
    refine bK ?_
    refine D.P (ar) ?_
    refine bK ?_
    refine D.P (ax) ?_
    refine bK ?_
    refine aj.gV ?_
    refine bq _ _ (0,lM t,[],[],t,0) (by simp [fL,eq_comm]) ?_ ?_ ?_ rfl rfl
    all_goals first|exact⟨rfl,rfl,rfl,rfl,trivial⟩|exact⟨rfl,rfl,trivial⟩|exact trivial
   by_cases au:k=3
   ·subst au
    have ar:=r9 m
    (have al:=J;have z2:=aa;refine fo ?_;refine fo ?_;refine fo ?_;refine fo ?_;clear al z2)
    repeat refine D.cN true true ?_
    refine aj.b6 ?_
    refine bK ?_
    refine D.P (ar) ?_
    refine bK ?_
    refine aj.gV ?_
    refine bq _ _ (0,db m,[],m,[],0) (by simp [fL,eq_comm]) ?_ ?_ ?_ rfl rfl
    all_goals first|exact⟨rfl,rfl,rfl,rfl,trivial⟩|exact⟨rfl,rfl,trivial⟩|exact trivial
   by_cases bn:k=4
   ·subst bn
    iterate 5 refine iT ?_
    refine aj.gV ?_
    refine bq _ _ (1,true,[],[],[],0) (by simp [fL,eq_comm]) ?_ ?_ ?_ rfl rfl
    all_goals first|exact⟨rfl,rfl,rfl,rfl,trivial⟩|exact⟨rfl,rfl,trivial⟩|exact trivial
   by_cases bL:k=5
   ·subst bL
    by_cases cq:o=[45]
    ·subst cq
     iterate 7 refine iT ?_
     refine aj.gV ?_
     refine bq _ _ (1,true,[45],[],[],0) (by simp [fL,eq_comm]) ?_ ?_ ?_ rfl rfl
     all_goals first|exact⟨rfl,rfl,rfl,rfl,trivial⟩|exact⟨rfl,rfl,trivial⟩|exact trivial
    by_cases j0:o=[33]
    ·subst j0
     have d6: ¬([33]:a7)=[45]:=by decide
     (have al:=d6;refine gA ?_;refine gA ?_;refine gA ?_;refine gA ?_;refine gA ?_;refine gA ?_;refine gA ?_;clear al)
     refine aj.gV ?_
     refine bq _ _ (1,true,[33],[],[],0) (by simp [fL,eq_comm]) ?_ ?_ ?_ rfl rfl
     all_goals first|exact⟨rfl,rfl,rfl,rfl,trivial⟩|exact⟨rfl,rfl,trivial⟩|exact trivial
    ·(have al:=cq;have z2:=j0;refine fo ?_;refine fo ?_;refine fo ?_;refine fo ?_;refine fo ?_;refine fo ?_;refine fo ?_;clear al z2)
     refine aj.gV ?_
     refine bq _ _ (1,false,o,[],[],0) (by simp [fL,cq,j0]) ?_ ?_ ?_ rfl rfl
     all_goals first|exact⟨rfl,rfl,rfl,rfl,trivial⟩|exact⟨rfl,rfl,trivial⟩|exact trivial
   by_cases cq:k=6
   ·subst cq
    have ar:=Fv o
    have hp:=(uG o).1
    have rW:(!(decide (cV o=0)))=decide (0<cV o):=by
     by_cases h:cV o=0
     ·simp [h]
     ·have aa:0<cV o:=by omega
      simp [h,aa]
    iterate 7 refine iT ?_
    repeat refine D.cN true true ?_
    refine aj.b6 ?_
    refine bK ?_
    refine D.P (ar) ?_
    refine bK ?_
    refine aj.gV ?_
    refine bq _ _ (2,decide (0<cV o),o,[],[],0) (by simp only[fL,show ¬(6:Int)=1 by decide,show ¬(6:Int)=2 by decide,show ¬(6:Int)=3 by decide,show ¬(6:Int)=4 by decide,show ¬(6:Int)=5 by decide,if_false,if_true,rW]; generalize decide (0<cV o)=b; cases b<;>simp [eq_comm]) ?_ ?_ ?_ rfl rfl
    all_goals first|exact⟨rfl,rfl,rfl,rfl,trivial⟩|exact⟨rfl,rfl,trivial⟩|exact trivial
   (repeat' first|(apply ae.s rfl;(·simp(disch:=omega)only[go_sem,simprocAttr,J,aa,au,bn,bL,cq]<;>with_reducible rfl))|(apply aj.s true true;(·simp(disch:=omega)only[go_sem,simprocAttr,J,aa,au,bn,bL,cq]<;>with_reducible rfl))|apply ae.nil|(refine aj.b6 ?_)|(apply ae.eX;(·simp(disch:=omega)only[go_sem,simprocAttr,J,aa,au,bn,bL,cq]<;>with_reducible rfl))|(apply ae.eY;(·rfl);(·simp(disch:=omega)only[go_sem,simprocAttr,J,aa,au,bn,bL,cq]<;>with_reducible rfl))|(apply ae.gs;(·simp(disch:=omega)only[go_sem,simprocAttr,J,aa,au,bn,bL,cq]<;>with_reducible rfl))|((first|apply ae.e3|apply ae.e4|apply ae.e5);(·simp(disch:=omega)only[go_sem,simprocAttr,J,aa,au,bn,bL,cq]<;>with_reducible rfl);(·simp(disch:=omega)only[go_sem,simprocAttr,J,aa,au,bn,bL,cq]<;>with_reducible rfl);(·assumption);(·omega))|intro h)
   first|refine D.R ?_|refine D.E ?_
   exact⟨_,rfl,.av (by simp [I.av,fL, *]) rfl,trivial,trivial⟩
end
section
attribute [local go_sem] ad.ct ad.b9 ad.de ac.ct ac.b9 ac.de cj eN fZ gJ dp of_flat cb.row dG mV
def vi (l:List ad) (k:Int):Bool:=l.all (fun x=>dB x&&decide (iL x≤10))&&decide ((l.length:Int)≤k)
theorem O5 (l:List ad) (k:Int) (aP:ad.bB l≤1000000000):Pure Tryz.prog 62 [.ay 6 (l.map ad.row),.int .i64 k] (.bool (vi l k)):=by
 have j9:=ad.hZ l
 have z0:((l.map ad.row).length:Int)=(l.length:Int):=by rw[List.length_map]
 unfold vi
 obtain⟨yG,LH⟩: ∃yG,yG=(fun x:ad=>dB x&&decide (iL x≤10)):=⟨_,rfl⟩
 rw[←LH]
 refine cF bN Tryz.func62 VA (by simp only[b3,I.flat,ad.b9,Bool.and_self]) rfl ?_
 unfold Kf Q2
 simp(disch:=omega)only[go_sem,simprocAttr]
 refine ao ?_
 refine aj.dd (X:=Nat) 0 (fun i=>[(0,.ay 6 (l.map ad.row)),(1,.int .i64 k),(5,.int .i64 (i:Int))]) (fun _=>[]) (fun _=>[]) (fun i=>i≤l.length∧(l.drop i).all yG=l.all yG) (fun i=>l.length-i) ⟨Nat.zero_le _,rfl⟩ ⟨rfl,rfl,rfl,trivial⟩ trivial trivial ?_
 rintro i ⟨ai,aB⟩
 try simp only at ai aB ⊢
 cases af:l[i]? with
 |some v=>
  have cK:=(List.getElem?_eq_some_iff.1 af).1
  have d1:(i:Int)<((l.map ad.row).length:Int):=by rw[List.length_map]; omega
  have Ex:=ad.pW (List.mem_of_getElem? af)
  have e:=Fs 1000000000 v (by omega) (Nat.le_refl _)
  have ax:=Ft 1000000000 v (by omega) (Nat.le_refl _)
  rw[iM af]at aB
  have aY:yG v=(dB v&&decide (iL v≤10)):=by rw[LH]
  simp only[List.all_cons,aY]at aB
  clear aY
  generalize dB v=oj at*
  generalize iL v=Dy at*
  rcases v with ⟨eb,ef,ed,eg,ee,ec⟩
  simp(disch:=omega)only[go_sem,simprocAttr]at e
  simp(disch:=omega)only[go_sem,simprocAttr]at ax
  (have al:=d1;refine bQ ?_;clear al)
  refine D.P (e) ?_
  cases oj
  ·refine ao ?_
   first|refine D.R ?_|refine D.E ?_
   exact⟨_,rfl,.av (by rw[←aB]; rfl) rfl,trivial,trivial⟩
  ·refine ao ?_
   refine D.P (ax) ?_
   by_cases bw:Dy≤10
   ·have d2: ¬(10:Int)<(Dy:Int):=by omega
    (have al:=d2;refine bQ ?_;clear al)
    refine aj.dK (i+1) ⟨by omega,by simpa [bw] using aB⟩ ⟨rfl,rfl,by simp only[Int.natCast_add]; rfl,trivial⟩ trivial trivial rfl rfl (by show l.length-(i+1)<l.length-i; omega)
   ·have d2:(10:Int)<(Dy:Int):=by omega
    (have al:=d2;refine bQ ?_;clear al)
    first|refine D.R ?_|refine D.E ?_
    exact⟨_,rfl,.av (by rw[←aB]; simp [I.av,bw]) rfl,trivial,trivial⟩
 |none=>
  have cM:=List.getElem?_eq_none_iff.1 af
  have bE:i=l.length:=by omega
  subst bE
  have d1: ¬(l.length:Int)<(l.length:Int):=by omega
  rw[List.drop_length]at aB
  simp only[List.all_nil]at aB
  (have al:=d1;have z2:=z0;refine e8 ?_;clear al z2)
  first|refine D.R ?_|refine D.E ?_
  refine⟨_,rfl,.av ?_ rfl,trivial,trivial⟩
  rw[←aB]
  simp [I.av]
theorem ax8 (v:cb):Pure Tryz.prog 59 [.agg v.row] (.bool (iN v)):=by
 obtain⟨h7,hV,cz,ai,ik,n,s⟩:=v
 have ar:=r9 h7
 have ax:=OQ ik n s
 obtain⟨G,hG⟩: ∃G,G=iN ⟨h7,hV,cz,ai,ik,n,s⟩:=⟨_,rfl⟩
 rw[←hG]
 simp only[iN]at hG
 refine cF bN Tryz.func59 Vy rfl rfl ?_
 unfold Kc QZ
 simp(disch:=omega)only[go_sem,simprocAttr]
 by_cases J:cz< -999999
 ·have ah:iX cz=false:=by simp [iX]; omega
  rw[ah,Bool.false_and,Bool.and_false]at hG
  (have al:=J;refine bQ ?_;clear al)
  first|refine D.R ?_|refine D.E ?_
  exact⟨_,rfl,.av (by rw[hG]; rfl) rfl,trivial,trivial⟩
 by_cases aa:ai< -999999
 ·have ah:iX ai=false:=by simp [iX]; omega
  rw[ah,Bool.false_and,Bool.and_false,Bool.and_false]at hG
  (have al:=J;have z2:=aa;refine e8 ?_;clear al z2)
  first|refine D.R ?_|refine D.E ?_
  exact⟨_,rfl,.av (by rw[hG]; rfl) rfl,trivial,trivial⟩
 by_cases au:999999<cz
 ·have ah:iX cz=false:=by simp [iX]; omega
  rw[ah,Bool.false_and,Bool.and_false]at hG
  (have al:=J;have z2:=aa;have z3:=au;refine ji ?_;clear al z2 z3)
  first|refine D.R ?_|refine D.E ?_
  exact⟨_,rfl,.av (by rw[hG]; rfl) rfl,trivial,trivial⟩
 have fa: ¬cz< -999999∧¬ai< -999999∧¬ 999999<cz:=⟨J,aa,au⟩
 by_cases bn:999999<ai
 ·have ah:iX ai=false:=by simp [iX]; omega
  rw[ah,Bool.false_and,Bool.and_false,Bool.and_false]at hG
  (have al:=fa;have z2:=bn;refine e8 ?_;clear al z2)
  first|refine D.R ?_|refine D.E ?_
  exact⟨_,rfl,.av (by rw[hG]; rfl) rfl,trivial,trivial⟩
 have fa: ¬cz< -999999∧¬ai< -999999∧¬ 999999<cz∧¬ 999999<ai:=⟨J,aa,au,bn⟩
 have c1:iX cz=true:=by simp [iX]; omega
 have c2:iX ai=true:=by simp [iX]; omega
 rw[c1,c2,Bool.true_and,Bool.true_and]at hG
 by_cases bC:hV=1
 ·subst bC
  simp only[decide_true,Bool.true_or,Bool.true_and]at hG
  by_cases i1:ik=1
  ·subst i1
   rw[if_pos rfl]at hG
   by_cases t1:s=[]
   rotate_left
   ·(have al:=fa;have z2:=t1;refine e8 ?_;clear al z2)
    first|refine D.R ?_|refine D.E ?_
    exact⟨_,rfl,.av (by rw[hG]; simp [I.av,t1]) rfl,trivial,trivial⟩
   subst t1
   by_cases t2: -999999≤n
   rotate_left
   ·(have al:=fa;have z2:=t2;refine e8 ?_;clear al z2)
    first|refine D.R ?_|refine D.E ?_
    exact⟨_,rfl,.av (by rw[hG]; simp [I.av,iX,t2]) rfl,trivial,trivial⟩
   by_cases t3:n≤999999
   rotate_left
   ·have t4: -999999≤n∧¬n≤999999:=⟨t2,t3⟩
    (have al:=fa;have z2:=t4;refine e8 ?_;clear al z2)
    first|refine D.R ?_|refine D.E ?_
    exact⟨_,rfl,.av (by rw[hG]; simp [I.av,iX,t3]) rfl,trivial,trivial⟩
   have t4: -999999≤n∧n≤999999:=⟨t2,t3⟩
   (have al:=fa;have z2:=t4;refine e8 ?_;clear al z2)
   refine D.P (ar) ?_
   refine ao ?_
   first|refine D.R ?_|refine D.E ?_
   exact⟨_,rfl,.av (by rw[hG]; simp [I.av,iX,t2,t3]) rfl,trivial,trivial⟩
  have af:so ik n s=(if ik=2 then decide (n=0)&&lM s else false):=by simp only[so,i1,if_false]
  rw[if_neg i1,←af]at hG
  generalize so ik n s=CG at*
  (have al:=fa;have z2:=i1;refine e8 ?_;clear al z2)
  refine D.P (ax) ?_
  cases CG
  ·refine ao ?_
   first|refine D.R ?_|refine D.E ?_
   exact⟨_,rfl,.av (by rw[hG]; simp [I.av]) rfl,trivial,trivial⟩
  ·refine ao ?_
   refine D.P (ar) ?_
   refine ao ?_
   first|refine D.R ?_|refine D.E ?_
   exact⟨_,rfl,.av (by rw[hG]; simp [I.av]) rfl,trivial,trivial⟩
 by_cases bA:hV=2
 rotate_left
 ·rw[decide_eq_false bC,decide_eq_false bA,Bool.false_and,Bool.or_false,Bool.false_and,Bool.and_false]at hG
  (have al:=fa;have z2:=bC;have z3:=bA;refine ji ?_;clear al z2 z3)
  first|refine D.R ?_|refine D.E ?_
  exact⟨_,rfl,.av (by rw[hG]; rfl) rfl,trivial,trivial⟩
 subst bA
 simp only[show ¬(2:Int)=1 by decide,decide_false,decide_true,Bool.false_or,Bool.true_and]at hG
 by_cases aM:cz<0
 ·have:decide (0≤cz)=false:=by simp; omega
  rw[this,Bool.false_and,Bool.false_and,Bool.and_false]at hG
  (have al:=fa;have z2:=aM;refine e8 ?_;clear al z2)
  first|refine D.R ?_|refine D.E ?_
  exact⟨_,rfl,.av (by rw[hG]; rfl) rfl,trivial,trivial⟩
 by_cases dZ:ai<0
 ·have:decide (0≤ai)=false:=by simp; omega
  rw[this,Bool.and_false,Bool.false_and,Bool.and_false]at hG
  (have al:=fa;have z2:=aM;have z3:=dZ;refine ji ?_;clear al z2 z3)
  first|refine D.R ?_|refine D.E ?_
  exact⟨_,rfl,.av (by rw[hG]; rfl) rfl,trivial,trivial⟩
 have cI:decide (0≤cz)=true:=by simp; omega
 have c8:decide (0≤ai)=true:=by simp; omega
 rw[cI,c8,Bool.true_and,Bool.true_and]at hG
 have dX: ¬cz<0∧¬ai<0:=⟨aM,dZ⟩
 by_cases i1:ik=1
 ·subst i1
  rw[if_pos rfl]at hG
  by_cases t1:s=[]
  rotate_left
  ·(have al:=fa;have z2:=dX;have z3:=t1;refine ji ?_;clear al z2 z3)
   first|refine D.R ?_|refine D.E ?_
   exact⟨_,rfl,.av (by rw[hG]; simp [I.av,t1]) rfl,trivial,trivial⟩
  subst t1
  by_cases t2: -999999≤n
  rotate_left
  ·(have al:=fa;have z2:=dX;have z3:=t2;refine ji ?_;clear al z2 z3)
   first|refine D.R ?_|refine D.E ?_
   exact⟨_,rfl,.av (by rw[hG]; simp [I.av,iX,t2]) rfl,trivial,trivial⟩
  by_cases t3:n≤999999
  rotate_left
  ·have t4: -999999≤n∧¬n≤999999:=⟨t2,t3⟩
   (have al:=fa;have z2:=dX;have z3:=t4;refine ji ?_;clear al z2 z3)
   first|refine D.R ?_|refine D.E ?_
   exact⟨_,rfl,.av (by rw[hG]; simp [I.av,iX,t3]) rfl,trivial,trivial⟩
  have t4: -999999≤n∧n≤999999:=⟨t2,t3⟩
  (have al:=fa;have z2:=dX;have z3:=t4;refine ji ?_;clear al z2 z3)
  refine D.P (ar) ?_
  refine ao ?_
  first|refine D.R ?_|refine D.E ?_
  exact⟨_,rfl,.av (by rw[hG]; simp [I.av,iX,t2,t3]) rfl,trivial,trivial⟩
 have af:so ik n s=(if ik=2 then decide (n=0)&&lM s else false):=by simp only[so,i1,if_false]
 rw[if_neg i1,←af]at hG
 generalize so ik n s=CG at*
 (have al:=fa;have z2:=dX;have z3:=i1;refine ji ?_;clear al z2 z3)
 refine D.P (ax) ?_
 cases CG
 ·refine ao ?_
  first|refine D.R ?_|refine D.E ?_
  exact⟨_,rfl,.av (by rw[hG]; simp [I.av]) rfl,trivial,trivial⟩
 ·refine ao ?_
  refine D.P (ar) ?_
  refine ao ?_
  first|refine D.R ?_|refine D.E ?_
  exact⟨_,rfl,.av (by rw[hG]; simp [I.av]) rfl,trivial,trivial⟩
end
section
attribute [local go_sem] ad.ct ad.b9 ad.de ac.ct ac.b9 ac.de cj eN fZ gJ dp of_flat cb.row dG mV
def oh (l:List ac) (d:Nat):Bool:=ho l&&decide (iv l≤d)
def uc (d:Nat) (v:ac):Bool:=hX v&&decide (kh v≤d)
theorem DL (d:Nat): ∀l,oh l d=l.all (uc d)
 |[]=>by simp [oh,ho,iv]
 |x::l=>by
  rw[List.all_cons,←DL d l]
  simp only[oh,uc,ho]
  have:decide (iv (x::l)≤d)=(decide (kh x≤d)&&decide (iv l≤d)):=by
   rw[←Bool.decide_and]
   exact decide_eq_decide.2 (by simp only[iv]; omega)
  rw[this]
  cases hX x<;>cases ho l<;>simp
theorem XQ (d:Nat) (k:Int) (m:a7) (x:ad) (t:Int) (a b:List ac):uc (d+1) (.mk k m x t a b)=((dB x&&decide (iL x<d+1))&&eu k m t a.length b.length&&(oh a d&&oh b d)):=by
 simp only[uc,hX,oh]
 have:decide (kh (.mk k m x t a b)≤d+1)=(decide (iL x<d+1)&&(decide (iv a≤d)&&decide (iv b≤d))):=by
  rw[←Bool.decide_and,←Bool.decide_and]
  exact decide_eq_decide.2 (by simp only[kh]; omega)
 rw[this]
 cases eu k m t a.length b.length<;>cases dB x<;>cases ho a<;>cases ho b<;>simp
theorem Fz: ∀(N:Nat) (l:List ac) (d:Nat),ac.bB l≤N→N≤100000000→d≤1000→Pure Tryz.prog 61 [.ay 11 (l.map ac.row),.int .i64 (d:Int)] (.bool (oh l d))
 |N,l,d,bW,rO,bw=>by
  have j9:=ac.hZ l
  refine cF bN Tryz.func61 Vz (by simp only[b3,I.flat,ac.b9,Bool.and_self]) rfl ?_
  unfold Ke Q1
  simp(disch:=omega)only[go_sem,simprocAttr]
  by_cases YZ:0<l.length∧d=0
  ·obtain⟨J,rfl⟩:=YZ
   have d1:(0:Int)<((l.map ac.row).length:Int):=by rw[List.length_map]; omega
   have eC:oh l 0=false:=by
    cases l with
    |nil=>simp at J
    |cons x l=>
     rcases x with ⟨k,m,x,t,a,b⟩
     simp [oh,iv,kh]
   (have al:=d1;refine bQ ?_;clear al)
   first|refine D.R ?_|refine D.E ?_
   exact⟨_,rfl,.av (by rw[eC]; rfl) rfl,trivial,trivial⟩
  have LK: ∃z:Bool,z=false∧((0:Int)<((l.map ac.row).length:Int)→¬(d:Int)=0):=⟨false,rfl,fun h=>by rw[List.length_map]at h; omega⟩
  rw[DL]
  cases xl:l with
  |nil=>
   refine ao ?_
   refine aj.dd (X:=Nat) 0 (fun i=>[(0,.ay 11 []),(1,.int .i64 (d:Int)),(5,.int .i64 (i:Int))]) (fun _=>[]) (fun _=>[]) (fun i=>i=0) (fun i=>0) rfl ⟨rfl,rfl,rfl,trivial⟩ trivial trivial ?_
   rintro i rfl
   refine ao ?_
   first|refine D.R ?_|refine D.E ?_
   exact⟨_,rfl,.av rfl rfl,trivial,trivial⟩
  |cons wo jd=>
  rw[←xl]
  have ZG:0<l.length:=by rw[xl]; simp
  obtain⟨jD,rfl⟩: ∃jD,d=jD+1:=⟨d-1,by omega⟩
  clear xl
  have d1:(0:Int)<((l.map ac.row).length:Int):=by rw[List.length_map]; omega
  have d2: ¬((jD+1:Nat):Int)=0:=by omega
  (have al:=d1;have z2:=d2;refine e8 ?_;clear al z2)
  refine aj.dd (X:=Nat) 0 (fun i=>[(0,.ay 11 (l.map ac.row)),(1,.int .i64 ((jD+1:Nat):Int)),(5,.int .i64 (i:Int))]) (fun _=>[]) (fun _=>[]) (fun i=>i≤l.length∧(l.drop i).all (uc (jD+1))=l.all (uc (jD+1))) (fun i=>l.length-i) ⟨Nat.zero_le _,rfl⟩ ⟨rfl,rfl,rfl,trivial⟩ trivial trivial ?_
  rintro i ⟨ai,aB⟩
  try simp only at ai aB ⊢
  cases af:l[i]? with
  |some v=>
   have cK:=(List.getElem?_eq_some_iff.1 af).1
   have d3:(i:Int)<((l.map ac.row).length:Int):=by rw[List.length_map]; omega
   have Ex:=ac.pW (List.mem_of_getElem? af)
   rw[iM af]at aB
   rcases v with ⟨k,m,x,t,a,b⟩
   simp only[ac.bI]at Ex
   have ar:=Fs 1000000000 x (by omega) (Nat.le_refl _)
   have ax:=Ft 1000000000 x (by omega) (Nat.le_refl _)
   have mm:=Fz (ac.bB a) a jD (Nat.le_refl _) (by omega) (by omega)
   have kG:=Fz (ac.bB b) b jD (Nat.le_refl _) (by omega) (by omega)
   rw[List.all_cons,XQ]at aB
   have Ea:=AF x
   generalize dB x=wZ at*
   generalize iL x=AJ at*
   generalize oh a jD=XK at*
   generalize oh b jD=XL at*
   rcases x with ⟨eb,ef,ed,eg,ee,ec⟩
   simp(disch:=omega)only[go_sem,simprocAttr]at ar
   simp(disch:=omega)only[go_sem,simprocAttr]at ax
   have al:((jD+1:Nat):Int)-1=(jD:Int):=by omega
   (have al:=d3;refine gA ?_;refine gA ?_;clear al)
   refine aj.aE7 (X:=Bool) (fun y=>[(0,.ay 11 (l.map ac.row)),(1,.int .i64 ((jD+1:Nat):Int)),(5,.int .i64 (i:Int)),(6,.ptr 0 0),(7,.bool y)]) (fun _=>[(0,165,[.int .i64 k,.str m,.int .i64 eb,.str ef,.str ed,.str eg,.int .i64 ee,.ay 6 (ec.map ad.row),.int .i64 t,.ay 11 (a.map ac.row),.ay 11 (b.map ac.row)])]) (fun _=>[]) (fun y=>y=(wZ&&decide (AJ<jD+1))) ?_ ?_
   rotate_left
   ·intro bq
    repeat refine D.cN true true ?_
    refine aj.b6 ?_
    refine bK ?_
    refine D.P (ar) ?_
    cases wZ
    ·refine bK ?_
     refine bq _ _ false (by simp) ?_ ?_ ?_ rfl rfl
     all_goals first|exact⟨rfl,rfl,rfl,rfl,rfl,trivial⟩|exact⟨rfl,trivial⟩|exact trivial
    ·refine bK ?_
     refine D.P (ax) ?_
     by_cases ab:AJ<jD+1
     ·have z:(AJ:Int)<((jD+1:Nat):Int):=by omega
      (have al:=z;refine rj ?_;clear al)
      refine bq _ _ true (by simp [ab]) ?_ ?_ ?_ rfl rfl
      all_goals first|exact⟨rfl,rfl,rfl,rfl,rfl,trivial⟩|exact⟨rfl,trivial⟩|exact trivial
     ·have z: ¬(AJ:Int)<((jD+1:Nat):Int):=by omega
      (have al:=z;refine rj ?_;clear al)
      refine bq _ _ false (by simp [ab]) ?_ ?_ ?_ rfl rfl
      all_goals first|exact⟨rfl,rfl,rfl,rfl,rfl,trivial⟩|exact⟨rfl,trivial⟩|exact trivial
   ·rintro B dX
    try simp only at dX ⊢
    rw[←dX]at aB
    clear dX
    iterate 1 refine iT ?_
    repeat refine D.cN true false ?_
    refine aj.C5 (X:=Bool) (fun y=>[(0,.ay 11 (l.map ac.row)),(1,.int .i64 ((jD+1:Nat):Int)),(5,.int .i64 (i:Int)),(6,.ptr 0 0),(7,.bool y)]) (fun _=>[(0,165,[.int .i64 k,.str m,.int .i64 eb,.str ef,.str ed,.str eg,.int .i64 ee,.ay 6 (ec.map ad.row),.int .i64 t,.ay 11 (a.map ac.row),.ay 11 (b.map ac.row)])]) (fun _=>[]) (fun y=>y=(B&&eu k m t a.length b.length)) ?_ ?_
    ·rintro C hC
     try simp only at hC ⊢
     rw[←hC]at aB
     clear hC
     cases C
     ·refine ao ?_
      first|refine D.R ?_|refine D.E ?_
      exact⟨_,rfl,.av (by rw[←aB]; rfl) rfl,trivial,trivial⟩
     ·(have al:=al;refine bQ ?_;clear al)
      refine D.P (mm) ?_
      cases XK
      ·refine ao ?_
       first|refine D.R ?_|refine D.E ?_
       exact⟨_,rfl,.av (by rw[←aB]; rfl) rfl,trivial,trivial⟩
      ·(have al:=al;refine bQ ?_;clear al)
       refine D.P (kG) ?_
       cases XL
       ·refine ao ?_
        first|refine D.R ?_|refine D.E ?_
        exact⟨_,rfl,.av (by rw[←aB]; rfl) rfl,trivial,trivial⟩
       ·refine ao ?_
        refine aj.gT (i+1) ⟨by omega,by simpa using aB⟩ ⟨rfl,rfl,by simp only[Int.natCast_add]; rfl,trivial⟩ trivial trivial rfl (by simp only[fY,dr,dP,dV,fO,I.cR,b2.bJ,ac.b9,go_sem]<;>rfl) (by show l.length-(i+1)<l.length-i; omega)
    ·intro bq
     by_cases bC:k=1
     ·subst bC
      cases B
      ·iterate 2 refine iT ?_
       refine aj.gV ?_
       refine bq _ _ false (by simp) ?_ ?_ ?_ rfl rfl
       all_goals first|exact⟨rfl,rfl,rfl,rfl,rfl,trivial⟩|exact⟨rfl,trivial⟩|exact trivial
      ·iterate 1 refine iT ?_
       repeat refine D.cN true true ?_
       refine aj.b6 ?_
       refine bK ?_
       refine D.P (r9 m) ?_
       cases hw:db m
       ·refine bK ?_
        refine aj.gV ?_
        refine bq _ _ false (by simp [eu,hw]) ?_ ?_ ?_ rfl rfl
        all_goals first|exact⟨rfl,rfl,rfl,rfl,rfl,trivial⟩|exact⟨rfl,trivial⟩|exact trivial
       by_cases t0:t=0
       rotate_left
       ·(have al:=t0;refine rj ?_;clear al)
        refine aj.gV ?_
        refine bq _ _ false (by simp [eu,t0]) ?_ ?_ ?_ rfl rfl
        all_goals first|exact⟨rfl,rfl,rfl,rfl,rfl,trivial⟩|exact⟨rfl,trivial⟩|exact trivial
       subst t0
       by_cases a0:a.length=0
       rotate_left
       ·have z2: ¬((a.map ac.row).length:Int)=0:=by rw[List.length_map]; omega
        (have al:=z2;refine rj ?_;clear al)
        refine aj.gV ?_
        refine bq _ _ false (by simp only[eu,a0,if_true,decide_false,Bool.false_and,Bool.and_false]) ?_ ?_ ?_ rfl rfl
        all_goals first|exact⟨rfl,rfl,rfl,rfl,rfl,trivial⟩|exact⟨rfl,trivial⟩|exact trivial
       have z2:((a.map ac.row).length:Int)=0:=by rw[List.length_map]; omega
       by_cases hi:b.length=0
       rotate_left
       ·have z3: ¬((b.map ac.row).length:Int)=0:=by rw[List.length_map]; omega
        (have al:=z2;have z2:=z3;refine GS ?_;clear al z2)
        refine aj.gV ?_
        refine bq _ _ false (by simp only[eu,hi,if_true,decide_false,Bool.false_and,Bool.and_false]) ?_ ?_ ?_ rfl rfl
        all_goals first|exact⟨rfl,rfl,rfl,rfl,rfl,trivial⟩|exact⟨rfl,trivial⟩|exact trivial
       have z3:((b.map ac.row).length:Int)=0:=by rw[List.length_map]; omega
       (have al:=z2;have z2:=z3;refine GS ?_;clear al z2)
       refine aj.gV ?_
       refine bq _ _ true (by simp [eu,a0,hi,hw]) ?_ ?_ ?_ rfl rfl
       all_goals first|exact⟨rfl,rfl,rfl,rfl,rfl,trivial⟩|exact⟨rfl,trivial⟩|exact trivial
     by_cases bA:k=2
     ·subst bA
      cases B
      ·iterate 3 refine iT ?_
       refine aj.gV ?_
       refine bq _ _ false (by simp) ?_ ?_ ?_ rfl rfl
       all_goals first|exact⟨rfl,rfl,rfl,rfl,rfl,trivial⟩|exact⟨rfl,trivial⟩|exact trivial
      by_cases m0:m=[]
      rotate_left
      ·(have al:=m0;refine gA ?_;refine gA ?_;refine gA ?_;clear al)
       refine aj.gV ?_
       refine bq _ _ false (by simp [eu,m0]) ?_ ?_ ?_ rfl rfl
       all_goals first|exact⟨rfl,rfl,rfl,rfl,rfl,trivial⟩|exact⟨rfl,trivial⟩|exact trivial
      subst m0
      by_cases t0:t=0
      rotate_left
      ·(have al:=t0;refine gA ?_;refine gA ?_;refine gA ?_;clear al)
       refine aj.gV ?_
       refine bq _ _ false (by simp [eu,t0]) ?_ ?_ ?_ rfl rfl
       all_goals first|exact⟨rfl,rfl,rfl,rfl,rfl,trivial⟩|exact⟨rfl,trivial⟩|exact trivial
      ·subst t0
       iterate 3 refine iT ?_
       refine aj.gV ?_
       refine bq _ _ true (by simp [eu]) ?_ ?_ ?_ rfl rfl
       all_goals first|exact⟨rfl,rfl,rfl,rfl,rfl,trivial⟩|exact⟨rfl,trivial⟩|exact trivial
     by_cases cO:k=3
     ·subst cO
      cases B
      ·iterate 4 refine iT ?_
       refine aj.gV ?_
       refine bq _ _ false (by simp) ?_ ?_ ?_ rfl rfl
       all_goals first|exact⟨rfl,rfl,rfl,rfl,rfl,trivial⟩|exact⟨rfl,trivial⟩|exact trivial
      by_cases m0:m=[]
      rotate_left
      ·(have al:=m0;refine gA ?_;refine gA ?_;refine gA ?_;refine gA ?_;clear al)
       refine aj.gV ?_
       refine bq _ _ false (by simp [eu,m0]) ?_ ?_ ?_ rfl rfl
       all_goals first|exact⟨rfl,rfl,rfl,rfl,rfl,trivial⟩|exact⟨rfl,trivial⟩|exact trivial
      subst m0
      by_cases t1:1≤t
      rotate_left
      ·(have al:=t1;refine gA ?_;refine gA ?_;refine gA ?_;refine gA ?_;clear al)
       refine aj.gV ?_
       refine bq _ _ false (by simp [eu,t1]) ?_ ?_ ?_ rfl rfl
       all_goals first|exact⟨rfl,rfl,rfl,rfl,rfl,trivial⟩|exact⟨rfl,trivial⟩|exact trivial
      by_cases t2:t≤50
      rotate_left
      ·(have al:=t1;have z2:=t2;refine fo ?_;refine fo ?_;refine fo ?_;refine fo ?_;clear al z2)
       refine aj.gV ?_
       refine bq _ _ false (by simp [eu,t2]) ?_ ?_ ?_ rfl rfl
       all_goals first|exact⟨rfl,rfl,rfl,rfl,rfl,trivial⟩|exact⟨rfl,trivial⟩|exact trivial
      have Bq:1≤t∧t≤50:=⟨t1,t2⟩
      by_cases hi:b.length=0
      rotate_left
      ·have z3: ¬((b.map ac.row).length:Int)=0:=by rw[List.length_map]; omega
       (have al:=Bq;have z2:=z3;refine fo ?_;refine fo ?_;refine fo ?_;refine fo ?_;clear al z2)
       refine aj.gV ?_
       refine bq _ _ false (by simp only[eu,show ¬(3:Int)=1 by decide,show ¬(3:Int)=2 by decide,hi,if_true,if_false,decide_false,Bool.false_and,Bool.and_false]) ?_ ?_ ?_ rfl rfl
       all_goals first|exact⟨rfl,rfl,rfl,rfl,rfl,trivial⟩|exact⟨rfl,trivial⟩|exact trivial
      ·have z3:((b.map ac.row).length:Int)=0:=by rw[List.length_map]; omega
       (have al:=Bq;have z2:=z3;refine fo ?_;refine fo ?_;refine fo ?_;refine fo ?_;clear al z2)
       refine aj.gV ?_
       refine bq _ _ true (by simp only[eu,show ¬(3:Int)=1 by decide,show ¬(3:Int)=2 by decide,hi,t1,t2,if_true,if_false,decide_true,Bool.true_and]) ?_ ?_ ?_ rfl rfl
       all_goals first|exact⟨rfl,rfl,rfl,rfl,rfl,trivial⟩|exact⟨rfl,trivial⟩|exact trivial
     have bh:eu k m t a.length b.length=false:=by simp only[eu,bC,bA,cO,if_false]
     rw[bh,Bool.and_false,Bool.false_and,Bool.false_and]at aB
     (have al:=bC;have z2:=bA;have z3:=cO;refine ji ?_;clear al z2 z3)
     first|refine D.R ?_|refine D.E ?_
     exact⟨_,rfl,.av (by rw[←aB]; rfl) rfl,trivial,trivial⟩
  |none=>
   have cM:=List.getElem?_eq_none_iff.1 af
   have bE:i=l.length:=by omega
   subst bE
   have d3: ¬(l.length:Int)<((l.map ac.row).length:Int):=by rw[List.length_map]; omega
   rw[List.drop_length]at aB
   (have al:=d3;refine bQ ?_;clear al)
   first|refine D.R ?_|refine D.E ?_
   exact⟨_,rfl,.av (by rw[←aB]; rfl) rfl,trivial,trivial⟩
 termination_by N l d=>ac.bB l
 decreasing_by all_goals (simp only[ac.bI]at*; omega)
end
section
attribute [local go_sem] ad.ct ad.b9 ad.de ac.ct ac.b9 ac.de cj eN fZ gJ dp of_flat cb.row dG mV
theorem X8 (h:cd):jZ h=((kR h.eK&&(db h.peer&&(decide (h.ps.length≤4)&&oh h.body 10)))&&h.ps.all db):=by
 have:(h.body.all hX&&h.body.all (fun x=>decide (kh x≤10)))=oh h.body 10:=by
  rw[DL]
  have: ∀l:List ac,(l.all hX&&l.all (fun x=>decide (kh x≤10)))=l.all (uc 10):=by
   intro l
   induction l with
   |nil=>rfl
   |cons x l cv=>
    rw[List.all_cons,List.all_cons,List.all_cons,←cv]
    simp only[uc]
    cases hX x<;>cases l.all hX<;>simp
  exact this _
 simp only[jZ,this]
 cases kR h.eK<;>cases db h.peer<;>cases decide (h.ps.length≤4)<;>cases h.ps.all db<;>simp
theorem X9 (o:ca):j6 o=(kR o.eK&&(db o.peer&&(vi o.args 4&&vi o.dT 1))):=by
 have fa: ∀l:List ad,(l.all dB&&l.all (fun x=>decide (iL x≤10)))=l.all (fun x=>dB x&&decide (iL x≤10)):=by
  intro l
  induction l with
  |nil=>rfl
  |cons x l cv=>
   rw[List.all_cons,List.all_cons,List.all_cons,←cv]
   cases dB x<;>cases l.all dB<;>simp
 have d1:decide ((o.args.length:Int)≤4)=decide (o.args.length≤4):=decide_eq_decide.2 (by omega)
 have d2:decide ((o.dT.length:Int)≤1)=decide (o.dT.length≤1):=decide_eq_decide.2 (by omega)
 simp only[j6,vi,d1,d2,←fa,List.all_append]
 generalize (o.args.all fun x=>decide (iL x≤10))=g1
 generalize (o.dT.all fun x=>decide (iL x≤10))=g2
 cases kR o.eK<;>cases db o.peer<;>cases decide (o.args.length≤4)<;>cases decide (o.dT.length≤1)<;>cases o.args.all dB<;>cases o.dT.all dB<;>cases g1<;>simp
theorem O0 (x:e9) (hb:oI x) (pR: ∀h∈x.ap,h.eK.length≤1000000000000000) (rW: ∀o∈x.os,o.eK.length≤1000000000000000):Pure Tryz.prog 21 [x.ir] (.bool (kJ x)):=by
 have ar:=r9 x.name
 have ax:=r9 x.hD
 have cw:=r9 x.hA
 have Em:=hb.nS
 have Ek:=hb.nh
 have ck:=hb.no
 obtain⟨G,hG⟩: ∃G,G=kJ x:=⟨_,rfl⟩
 have qD:kJ x=(qX x&&(py x&&decide ((iK x).length≤8000))):=rfl
 rw[←hG]
 rw[qD]at hG
 have wO:qX x=true→py x=true→Pure Tryz.prog 57 [x.ir] (.str (iK x)):=fun J aa=>O2 x (Cv hb J aa)
 have na:qX x=(db x.name&&(db x.hD&&(db x.hA&&(decide (x.vars.length≤12)&&(decide (x.ap.length≤40)&&decide (x.os.length≤40)))))):=rfl
 have om:py x=(x.vars.all iN&&(x.ap.all jZ&&x.os.all j6)):=rfl
 rw[lq]at wO ⊢
 obtain⟨C,hC⟩: ∃C,C=iK x:=⟨_,rfl⟩
 rw[←hC]at hG wO
 refine cF bN Tryz.func21 U9 (by simp only[b3,I.flat,dG,dp,of_flat,Bool.and_self]) rfl ?_
 unfold vg QA
 simp(disch:=omega)only[go_sem,simprocAttr]
 refine ao ?_
 refine D.P (ar) ?_
 cases pn:db x.name
 ·rw[pn,Bool.false_and]at na
  rw[na,Bool.false_and]at hG
  refine ao ?_
  first|refine D.R ?_|refine D.E ?_
  exact⟨_,rfl,.av (by rw[hG]; rfl) rfl,trivial,trivial⟩
 refine ao ?_
 refine D.P (ax) ?_
 cases mc:db x.hD
 ·rw[pn,mc,Bool.false_and,Bool.and_false]at na
  rw[na,Bool.false_and]at hG
  refine ao ?_
  first|refine D.R ?_|refine D.E ?_
  exact⟨_,rfl,.av (by rw[hG]; rfl) rfl,trivial,trivial⟩
 refine ao ?_
 refine D.P (cw) ?_
 cases sp:db x.hA
 ·rw[pn,mc,sp,Bool.false_and,Bool.and_false,Bool.and_false]at na
  rw[na,Bool.false_and]at hG
  refine ao ?_
  first|refine D.R ?_|refine D.E ?_
  exact⟨_,rfl,.av (by rw[hG]; rfl) rfl,trivial,trivial⟩
 rw[pn,mc,sp,Bool.true_and,Bool.true_and,Bool.true_and]at na
 by_cases v1:x.vars.length≤12
 rotate_left
 ·have al:(12:Int)<((x.vars.map cb.row).length:Int):=by rw[List.length_map]; omega
  rw[decide_eq_false v1,Bool.false_and]at na
  rw[na,Bool.false_and]at hG
  (have al:=al;refine bQ ?_;clear al)
  first|refine D.R ?_|refine D.E ?_
  exact⟨_,rfl,.av (by rw[hG]; rfl) rfl,trivial,trivial⟩
 have al: ¬(12:Int)<((x.vars.map cb.row).length:Int):=by rw[List.length_map]; omega
 by_cases v2:x.ap.length≤40
 rotate_left
 ·have z2:(40:Int)<((x.ap.map cd.row).length:Int):=by rw[List.length_map]; omega
  rw[decide_eq_false v2,Bool.false_and,Bool.and_false]at na
  rw[na,Bool.false_and]at hG
  (have al:=al;have z2:=z2;refine e8 ?_;clear al z2)
  first|refine D.R ?_|refine D.E ?_
  exact⟨_,rfl,.av (by rw[hG]; rfl) rfl,trivial,trivial⟩
 have z2: ¬(40:Int)<((x.ap.map cd.row).length:Int):=by rw[List.length_map]; omega
 by_cases v3:x.os.length≤40
 rotate_left
 ·have z3:(40:Int)<((x.os.map ca.row).length:Int):=by rw[List.length_map]; omega
  rw[decide_eq_false v3,Bool.and_false,Bool.and_false]at na
  rw[na,Bool.false_and]at hG
  (have al:=al;have z2:=z2;have z3:=z3;refine ji ?_;clear al z2 z3)
  first|refine D.R ?_|refine D.E ?_
  exact⟨_,rfl,.av (by rw[hG]; rfl) rfl,trivial,trivial⟩
 have z3: ¬(40:Int)<((x.os.map ca.row).length:Int):=by rw[List.length_map]; omega
 rw[decide_eq_true v1,decide_eq_true v2,decide_eq_true v3,Bool.true_and,Bool.true_and]at na
 rw[na,Bool.true_and]at hG
 (have al:=al;have z2:=z2;have z3:=z3;refine ji ?_;clear al z2 z3)
 refine aj.dd (X:=Nat) 0 (fun i=>[(1,.ptr 0 0),(3,.int .i64 (i:Int))]) (fun _=>[(0,35,x.cells)]) (fun _=>[]) (fun i=>i≤x.vars.length∧(x.vars.drop i).all iN=x.vars.all iN) (fun i=>x.vars.length-i) ⟨Nat.zero_le _,rfl⟩ ⟨rfl,rfl,trivial⟩ ⟨by simp only[fG]; rfl,trivial⟩ trivial ?_
 rintro i ⟨ai,aB⟩
 try simp only at ai aB ⊢
 simp only[fG]
 cases af:x.vars[i]? with
 |some v=>
  have cK:=(List.getElem?_eq_some_iff.1 af).1
  have d1:(i:Int)<((x.vars.map cb.row).length:Int):=by rw[List.length_map]; omega
  have e:=ax8 v
  rw[iM af]at aB
  simp only[List.all_cons]at aB
  generalize iN v=oj at*
  rcases v with ⟨h7,hV,cz,gB,ik,n,s⟩
  simp only[cb.row]at e
  (have al:=d1;refine bQ ?_;clear al)
  refine D.P (e) ?_
  cases oj
  ·rw[Bool.false_and]at aB
   rw[om,←aB,Bool.false_and,Bool.false_and]at hG
   refine ao ?_
   first|refine D.R ?_|refine D.E ?_
   exact⟨_,rfl,.av (by rw[hG]; rfl) rfl,trivial,trivial⟩
  ·refine ao ?_
   refine aj.dK (i+1) ⟨by omega,by simpa using aB⟩ ⟨rfl,by simp only[Int.natCast_add]; rfl,trivial⟩ ⟨rfl,trivial⟩ trivial rfl rfl (by show x.vars.length-(i+1)<x.vars.length-i; omega)
 |none=>
 have cM:=List.getElem?_eq_none_iff.1 af
 have bE:i=x.vars.length:=by omega
 subst bE
 have d1: ¬(x.vars.length:Int)<((x.vars.map cb.row).length:Int):=by rw[List.length_map]; omega
 rw[List.drop_length]at aB
 have YC:x.vars.all iN=true:=aB.symm
 clear aB af cM ai
 rw[YC,Bool.true_and]at om
 (have al:=d1;refine bQ ?_;clear al)
 refine aj.dd (X:=Nat) 0 (fun i=>[(1,.ptr 0 0),(4,.int .i64 (i:Int))]) (fun _=>[(0,35,x.cells)]) (fun _=>[]) (fun i=>i≤x.ap.length∧(x.ap.drop i).all jZ=x.ap.all jZ) (fun i=>x.ap.length-i) ⟨Nat.zero_le _,rfl⟩ ⟨rfl,rfl,trivial⟩ ⟨by simp only[fG]; rfl,trivial⟩ trivial ?_
 rintro i ⟨ai,aB⟩
 try simp only at ai aB ⊢
 simp only[fG]
 cases af:x.ap[i]? with
 |some v=>
  have cK:=(List.getElem?_eq_some_iff.1 af).1
  have gN:=List.mem_of_getElem? af
  have d2:(i:Int)<((x.ap.map cd.row).length:Int):=by rw[List.length_map]; omega
  have Lu:=hb.aP v gN
  have Bg:=hb.hp v gN
  have fR:=O4 v.eK (pR v gN)
  have il:=r9 v.peer
  have gl:=Fz 10000 v.body 10 Lu (by omega) (by omega)
  rw[iM af]at aB
  rw[List.all_cons,X8]at aB
  rcases v with ⟨eK,peer,ps,body⟩
  simp only at fR il gl Bg aB
  generalize kR eK=eB at*
  generalize db peer=dU at*
  generalize oh body 10=jj at*
  (have al:=d2;refine bQ ?_;clear al)
  refine D.P (fR) ?_
  cases eB
  ·rw[Bool.false_and,Bool.false_and]at aB
   rw[Bool.false_and]at aB
   rw[om,←aB,Bool.false_and,Bool.false_and]at hG
   refine ao ?_
   first|refine D.R ?_|refine D.E ?_
   exact⟨_,rfl,.av (by rw[hG]; rfl) rfl,trivial,trivial⟩
  refine ao ?_
  refine D.P (il) ?_
  cases dU
  ·rw[Bool.false_and,Bool.and_false,Bool.false_and]at aB
   rw[Bool.false_and]at aB
   rw[om,←aB,Bool.false_and,Bool.false_and]at hG
   refine ao ?_
   first|refine D.R ?_|refine D.E ?_
   exact⟨_,rfl,.av (by rw[hG]; rfl) rfl,trivial,trivial⟩
  by_cases BF:ps.length≤4
  rotate_left
  ·have qa:(4:Int)<((ps.map cj).length:Int):=by rw[List.length_map]; omega
   rw[decide_eq_false BF,Bool.false_and,Bool.and_false,Bool.and_false,Bool.false_and,Bool.false_and]at aB
   rw[om,←aB,Bool.false_and,Bool.false_and]at hG
   (have al:=qa;refine bQ ?_;clear al)
   first|refine D.R ?_|refine D.E ?_
   exact⟨_,rfl,.av (by rw[hG]; rfl) rfl,trivial,trivial⟩
  have qa: ¬(4:Int)<((ps.map cj).length:Int):=by rw[List.length_map]; omega
  (have al:=qa;refine bQ ?_;clear al)
  refine D.P (gl) ?_
  cases jj
  ·rw[Bool.and_false,Bool.and_false,Bool.and_false,Bool.false_and]at aB
   rw[Bool.false_and]at aB
   rw[om,←aB,Bool.false_and,Bool.false_and]at hG
   refine ao ?_
   first|refine D.R ?_|refine D.E ?_
   exact⟨_,rfl,.av (by rw[hG]; rfl) rfl,trivial,trivial⟩
  rw[decide_eq_true BF,Bool.true_and,Bool.true_and,Bool.true_and,Bool.true_and]at aB
  refine ao ?_
  refine aj.dd (X:=Nat) 0 (fun j=>[(1,.ptr 0 0),(5,.ptr 1 0),(4,.int .i64 (i:Int)),(6,.int .i64 (j:Int))]) (fun _=>[(1,99,(cd.mk eK peer ps body).row),(0,35,x.cells)]) (fun _=>[]) (fun j=>j≤ps.length∧(ps.drop j).all db=ps.all db) (fun j=>ps.length-j) ⟨Nat.zero_le _,rfl⟩ ⟨rfl,rfl,rfl,rfl,trivial⟩ ⟨by simp only[fZ]; rfl,by simp only[fG]; rfl,trivial⟩ trivial ?_
  rintro j ⟨bq,hw⟩
  try simp only at bq hw ⊢
  simp only[fG,fZ]
  cases ab:ps[j]? with
  |some s=>
   have Zu:=(List.getElem?_eq_some_iff.1 ab).1
   have d3:(j:Int)<((ps.map cj).length:Int):=by rw[List.length_map]; omega
   have mB:=r9 s
   rw[iM ab,List.all_cons]at hw
   generalize db s=pC at*
   (have al:=d3;refine bQ ?_;clear al)
   refine D.P (mB) ?_
   cases pC
   ·rw[Bool.false_and]at hw
    rw[←hw,Bool.false_and]at aB
    rw[om,←aB,Bool.false_and,Bool.false_and]at hG
    refine ao ?_
    first|refine D.R ?_|refine D.E ?_
    exact⟨_,rfl,.av (by rw[hG]; rfl) rfl,trivial,trivial⟩
   ·refine ao ?_
    refine aj.dK (j+1) ⟨by omega,by simpa using hw⟩ ⟨rfl,rfl,rfl,by simp only[Int.natCast_add]; rfl,trivial⟩ ⟨rfl,rfl,trivial⟩ trivial rfl rfl (by show ps.length-(j+1)<ps.length-j; omega)
  |none=>
   have cM:=List.getElem?_eq_none_iff.1 ab
   have bE:j=ps.length:=by omega
   subst bE
   have d3: ¬(ps.length:Int)<((ps.map cj).length:Int):=by rw[List.length_map]; omega
   rw[List.drop_length]at hw
   rw[←hw]at aB
   (have al:=d3;refine bQ ?_;clear al)
   refine aj.gT (i+1) ⟨by omega,by simpa using aB⟩ ⟨rfl,by simp only[Int.natCast_add]; rfl,trivial⟩ ⟨rfl,trivial⟩ trivial rfl (by simp only[fY,dr,dP,dV,fO,I.cR,b2.bJ,fG,dG,dp,of_flat,go_sem]<;>rfl) (by show x.ap.length-(i+1)<x.ap.length-i; omega)
 |none=>
 have cM:=List.getElem?_eq_none_iff.1 af
 have bE:i=x.ap.length:=by omega
 subst bE
 have d1: ¬(x.ap.length:Int)<((x.ap.map cd.row).length:Int):=by rw[List.length_map]; omega
 rw[List.drop_length]at aB
 have Yz:x.ap.all jZ=true:=aB.symm
 clear aB af cM ai
 rw[Yz,Bool.true_and]at om
 (have al:=d1;refine bQ ?_;clear al)
 refine aj.dd (X:=Nat) 0 (fun i=>[(1,.ptr 0 0),(7,.int .i64 (i:Int))]) (fun _=>[(0,35,x.cells)]) (fun _=>[]) (fun i=>i≤x.os.length∧(x.os.drop i).all j6=x.os.all j6) (fun i=>x.os.length-i) ⟨Nat.zero_le _,rfl⟩ ⟨rfl,rfl,trivial⟩ ⟨by simp only[fG]; rfl,trivial⟩ trivial ?_
 rintro i ⟨ai,aB⟩
 try simp only at ai aB ⊢
 simp only[fG]
 cases af:x.os[i]? with
 |some v=>
  have cK:=(List.getElem?_eq_some_iff.1 af).1
  have gN:=List.mem_of_getElem? af
  have d2:(i:Int)<((x.os.map ca.row).length:Int):=by rw[List.length_map]; omega
  have Lu:=hb.o6 v gN
  have fR:=O4 v.eK (rW v gN)
  have il:=r9 v.peer
  have gl:=O5 v.args 4 (by omega)
  have mB:=O5 v.dT 1 (by omega)
  rw[iM af]at aB
  rw[List.all_cons,X9]at aB
  rcases v with ⟨eK,peer,args,dT⟩
  simp only at fR il gl mB aB
  generalize kR eK=eB at*
  generalize db peer=dU at*
  generalize vi args 4=jj at*
  generalize vi dT 1=kD at*
  (have al:=d2;refine bQ ?_;clear al)
  refine D.P (fR) ?_
  cases eB
  ·rw[Bool.false_and,Bool.false_and]at aB
   rw[om,←aB,Bool.false_and]at hG
   refine ao ?_
   first|refine D.R ?_|refine D.E ?_
   exact⟨_,rfl,.av (by rw[hG]; rfl) rfl,trivial,trivial⟩
  refine ao ?_
  refine D.P (il) ?_
  cases dU
  ·rw[Bool.false_and,Bool.and_false,Bool.false_and]at aB
   rw[om,←aB,Bool.false_and]at hG
   refine ao ?_
   first|refine D.R ?_|refine D.E ?_
   exact⟨_,rfl,.av (by rw[hG]; rfl) rfl,trivial,trivial⟩
  refine ao ?_
  refine D.P (gl) ?_
  cases jj
  ·rw[Bool.false_and,Bool.and_false,Bool.and_false,Bool.false_and]at aB
   rw[om,←aB,Bool.false_and]at hG
   refine ao ?_
   first|refine D.R ?_|refine D.E ?_
   exact⟨_,rfl,.av (by rw[hG]; rfl) rfl,trivial,trivial⟩
  refine ao ?_
  refine D.P (mB) ?_
  cases kD
  ·rw[Bool.and_false,Bool.and_false,Bool.and_false,Bool.false_and]at aB
   rw[om,←aB,Bool.false_and]at hG
   refine ao ?_
   first|refine D.R ?_|refine D.E ?_
   exact⟨_,rfl,.av (by rw[hG]; rfl) rfl,trivial,trivial⟩
  rw[Bool.true_and,Bool.true_and,Bool.true_and,Bool.true_and]at aB
  refine ao ?_
  refine aj.gT (i+1) ⟨by omega,aB⟩ ⟨rfl,by simp only[Int.natCast_add]; rfl,trivial⟩ ⟨rfl,trivial⟩ trivial rfl (by simp only[fY,dr,dP,dV,fO,I.cR,b2.bJ,fG,dG,dp,of_flat,go_sem]<;>rfl) (by show x.os.length-(i+1)<x.os.length-i; omega)
 |none=>
 have cM:=List.getElem?_eq_none_iff.1 af
 have bE:i=x.os.length:=by omega
 subst bE
 have d1: ¬(x.os.length:Int)<((x.os.map ca.row).length:Int):=by rw[List.length_map]; omega
 rw[List.drop_length]at aB
 rw[←aB]at om
 have Lr:py x=true:=om
 have EX:=wO na Lr
 rw[Lr,Bool.true_and]at hG
 (have al:=d1;refine bQ ?_;clear al)
 refine D.P (EX) ?_
 refine ao ?_
 first|refine D.R ?_|refine D.E ?_
 refine⟨_,rfl,.av ?_ rfl,trivial,trivial⟩
 rw[hG]
 simp only[I.av,I.bool.injEq]
 exact decide_eq_decide.2 (by omega)
end
end Go.bc.T.N
namespace Go.bc
open Go Go.bc.T.N
theorem wk {a:Int}(aw: -9223372036854775808≤a) (J:a<9223372036854775808):IntKind.i64.wrap a=a:=by
 simp only[IntKind.wrap,IntKind.bits,IntKind.signed]
 simp
 omega
mutual
theorem ad.Am: ∀x:ad,x.bI≤100000000→x.am=(x.bI:Int)-1
 | .mk _ _ _ _ _ l,h=>by
  simp only[ad.bI]at h
  have aH:=ad.hZ l
  simp only[ad.am,ad.bI]
  rw[ad.sC l (l.length:Int) (by omega) (by omega) (by omega)]
  omega
theorem ad.sC: ∀(l:List ad) (n:Int),ad.bB l≤100000000→0≤n→n+(ad.bB l:Int)≤1000000000000→ad.iH l n=n+((ad.bB l:Int)-l.length)
 |[],n,_,_,_=>by simp [ad.iH,ad.bB]
 |x::l,n,h,aw,J=>by
  simp only[ad.bB]at h J
  have hp:1≤x.bI:=by cases x; simp only[ad.bI]; omega
  rw[ad.iH,ad.Am x (by omega),wk (by omega) (by omega),ad.sC l _ (by omega) (by omega) (by omega)]
  simp only[ad.bB,List.length_cons]
  omega
end
mutual
theorem ac.Am: ∀x:ac,x.bI≤100000000→x.am=(x.bI:Int)-1
 | .mk _ _ x _ a b,h=>by
  simp only[ac.bI]at h
  have hp:1≤x.bI:=by cases x; simp only[ad.bI]; omega
  have aP:=ac.hZ a
  have hb:=ac.hZ b
  simp only[ac.am,ac.bI]
  rw[ad.Am x (by omega),ac.sC a (a.length:Int) (by omega) (by omega) (by omega),ac.sC b (b.length:Int) (by omega) (by omega) (by omega),wk (a:=1+ _) (by omega) (by omega),wk (a:=1+ _+ _) (by omega) (by omega),wk (by omega) (by omega)]
  omega
theorem ac.sC: ∀(l:List ac) (n:Int),ac.bB l≤100000000→0≤n→n+(ac.bB l:Int)≤1000000000000→ac.iH l n=n+((ac.bB l:Int)-l.length)
 |[],n,_,_,_=>by simp [ac.iH,ac.bB]
 |x::l,n,h,aw,J=>by
  simp only[ac.bB]at h J
  have hp:1≤x.bI:=by cases x; simp only[ac.bI]; omega
  rw[ac.iH,ac.Am x (by omega),wk (by omega) (by omega),ac.sC l _ (by omega) (by omega) (by omega)]
  simp only[ac.bB,List.length_cons]
  omega
end
def ph:List cd→Nat
 |[]=>0
 |h::l=>ac.bB h.body+ph l
def pi:List ca→Nat
 |[]=>0
 |o::l=>ad.bB o.args+ad.bB o.dT+pi l
theorem KU: ∀(l:List cd) (n:Int) (z:Int),ph l≤100000000→0≤n→n+(ph l:Int)≤1000000000000→rE l n=some z→z=n+ph l∧∀h∈l,h.ps.length≤60∧ac.bB h.body≤ph l
 |[],n,z,_,_,_,h=>by
  simp only[rE,Option.some.injEq]at h
  simp [ph,h]
 |h::l,n,z,ap,aw,J,aW=>by
  simp only[ph]at ap J
  simp only[rE]at aW
  by_cases hp:60<h.ps.length
  ·rw[if_pos hp]at aW; cases aW
  rw[if_neg hp]at aW
  have aH:=ac.hZ h.body
  rw[ac.sC h.body (h.body.length:Int) (by omega) (by omega) (by omega),wk (by omega) (by omega)]at aW
  obtain⟨e,k⟩:=KU l _ z (by omega) (by omega) (by omega) aW
  refine⟨by simp only[ph]; omega,fun g aY=> ?_⟩
  simp only[ph]
  rcases List.mem_cons.1 aY with rfl|aY
  ·exact⟨by omega,by omega⟩
  ·have:=k g aY
   exact⟨this.1,by omega⟩
theorem KV: ∀(l:List ca) (n:Int),pi l≤100000000→0≤n→n+(pi l:Int)≤1000000000000→rF l n=n+pi l
 |[],n,_,_,_=>by simp [rF,pi]
 |o::l,n,ap,aw,J=>by
  simp only[pi]at ap J
  have aP:=ad.hZ o.args
  have hb:=ad.hZ o.dT
  rw[rF,ad.sC o.args (o.args.length:Int) (by omega) (by omega) (by omega),ad.sC o.dT (o.dT.length:Int) (by omega) (by omega) (by omega)]
  simp (disch:=omega) only[wk]
  rw[KV l _ (by omega) (by omega) (by omega)]
  simp only[pi]
  omega
theorem R2: ∀ {l:List ca}{o:ca},o∈l→ad.bB o.args+ad.bB o.dT≤pi l
 |p::l,o,h=>by
  simp only[pi]
  rcases List.mem_cons.1 h with rfl|h
  ·omega
  ·have:=R2 h; omega
theorem XN {x:e9}(J:ph x.ap≤100000000) (aa:pi x.os≤100000000) (aW:ub x=true):oI x:=by
 unfold ub at aW
 cases bh:rE x.ap 0 with
 |none=>rw[bh]at aW; cases aW
 |some n=>
  rw[bh]at aW
  obtain⟨e,k⟩:=KU x.ap 0 n J (by omega) (by omega) bh
  simp only[Bool.and_eq_true,decide_eq_true_eq]at aW
  rw[KV x.os n aa (by omega) (by omega)]at aW
  obtain⟨f1,f2,f3,f4⟩:=aW
  exact⟨fun h hm=>by have:=(k h hm).2; omega,fun h hm=>by have:=(k h hm).1; omega,fun o hm=>by have:=R2 hm; omega,by omega,by omega,by omega⟩
end Go.bc
set_option maxRecDepth 100000
namespace Go.bc.T.N
open Go Go.bc Go.Proofs Go.ChangeShapes Go.WideShapes Go.RowKit
def od:List TypeId:=[9,51,66,95,99,165]
theorem Xn:FT Tryz.prog od=true:=by kernel_rfl
theorem RF:lK Tryz.prog od 8 51=some [.ey (.i .i64),.ey .s,.ey .s,.ey .s,.ey (.i .i64),.io 51]:=by kernel_rfl
theorem Gf:Tryz.prog.cellsOf 51=6:=by kernel_rfl
theorem C9:Tryz.prog.bytesOf 51=88:=by kernel_rfl
theorem Ar:Tryz.prog.bytesOf 9=16:=by kernel_rfl
variable {R:Nat}
theorem KO (n:Nat) (r:List I) (h:n1 Tryz.prog od R n 51 r): ∃x:ad,r=x.row∧x.ok R:=DK RF Gf C9 n r h
section
variable {H:Type}{enc:TypeId×Value→H}{w:World}{base:Nat}{spare:Nat→Bool}{held:Bool}
end
end Go.bc.T.N
namespace Go.Proofs.YtjkbgcgljnldeaaGreatDoor
open Go.ChangeShapes Go.WideShapes Go.ChangeAt Go.RowKit
mutual
theorem Ik {H:Type}: ∀d:DataW H,Go.bc.jE d≤Rows.uptoBulk d
 | .lit l=>by cases l<;>simp [Go.bc.jE,Rows.uptoBulk]
 | .nil=>by simp [Go.bc.jE,Rows.uptoBulk]
 | .ptr d=>by simp [Go.bc.jE,Rows.uptoBulk]
 | .slice qu spare=>by
  have:=AE qu
  have:=AE spare
  simp only[Go.bc.jE,Rows.uptoBulk]
  omega
 | .agg parts=>by
  have:=AE parts
  simp only[Go.bc.jE,Rows.uptoBulk]
  omega
 | .iface _ d=>by simp [Go.bc.jE,Rows.uptoBulk]
 | .map entries=>by simp [Go.bc.jE,Rows.uptoBulk]
 | .held _=>by simp [Go.bc.jE,Rows.uptoBulk]
theorem AE {H:Type}: ∀l:List (DataW H),Go.bc.nE l≤Rows.uptoBulkAll l
 |[]=>by simp [Go.bc.nE,Rows.uptoBulkAll]
 |d::r=>by
  have:=Ik d
  have:=AE r
  simp only[Go.bc.nE,Rows.uptoBulkAll]
  omega
end
section
variable {H:Type}{enc:TypeId×Value→H}
theorem aC9 {a:Assume}{C:Checked}{os:Os}{f:FuncId}{fn:Func}{s:ChangeSpec}{conds:List PathCond}{apart fresh handsOn again:Bool}{X:World→Array Value→Prop}
  (uj: ∀(w w':World) (args:Array Value),w.heap=w'.heap→X w args→X w' args)
  (own:ownKnob C.prog.godebug=none) (started:os.Started) (aj3:C.prog.inits.idxOf? f=none) (xi:C.prog.funcs[f]? =some fn)
  (witness: ∃(w:World) (tape:Tape) (i:Input),w.os=os∧(w.forCall tape i).Shaped C.prog∧i.vars=[]∧Input.okWide C.prog (w.forCall tape i) .any w.heap.size f i∧
   (((Rows.OpenSpec.upto s).pre enc C.prog fn conds apart (w.forCall tape i).memory i.args∧X (w.forCall tape i).memory i.args)∧sizedMet enc C.prog fn (Rows.OpenSpec.upto s) apart (w.forCall tape i).memory i.args)∧a.holds C.prog (lone (Frame.enter C.prog f i.args .normal) [] (w.forCall tape i)))
  (contract: ∀(W:World) (base:Nat) (args:Array Value) (iZ gs:List (DataW H)) (before:List MemPlace),
   (∀(j:Nat) t v,fn.params[j]? =some t→args[j]? =some v→Value.okWide C.prog W .any base t v)→
   DataW.Whole enc C.prog fn.params.toList s.vars apart W args.toList iZ gs before→
   (DataW.weightsEach C.prog (fn.params.toList++s.plain.varTypes C.prog) (iZ++gs)).all (·≤reachBytes)=true→
   Rows.uptoBulkAll (iZ++gs)≤1048576→
   X W args→W.ShapedOpen C.prog→
   Calls C.prog f args W fun e CV=> ∃v,e= .returned v∧s.post enc C.prog fn apart fresh handsOn again W args v CV):
  ReturnsInHanded a C os f .any (fun w args=>((Rows.OpenSpec.upto s).pre enc C.prog fn conds apart w args∧X w args)∧sizedMet enc C.prog fn (Rows.OpenSpec.upto s) apart w args) (s.post enc C.prog fn apart fresh handsOn again):=by
 refine returnsInHanded_of_calls own started aj3 witness ?_
 intro w tape i _ Ev _ iy xm _
 obtain⟨_,_,_,XV,Za,_,_,_,_,Bz⟩:=iy
 obtain rfl:XV=fn:=Option.some.inj (Za.symm.trans xi)
 obtain⟨⟨⟨iZ,gs,before,hw,_,aC⟩,ab⟩,aB⟩:=xm
 have rT:Rows.uptoBulkAll (iZ++gs)≤1048576:=of_decide_eq_true aC
 have Ey:=DataW.Whole.of_heap (w':=w.forCall tape i) (by rfl) hw
 refine (contract (w.forCall tape i) w.heap.size i.args iZ gs before Bz Ey (aB.weights hw) rT (uj _ _ _ (by rfl) ab) Ev).mono fun e CV ⟨v,he,hp⟩=> ?_
 subst he
 exact ChangeSpec.post_blind hp
def Fg (enc:TypeId×Value→H) (P:Program) (f:Func) (s:ChangeSpec) (conds:List PathCond) (apart:Bool) (w:World) (args:Array Value) (jY:Nat):Bool:=
 match DataW.whole enc P w f.params.toList s.vars apart args.toList jY with
 |some x=>conds.all (PathCond.test P ⟨f.params.toList,x.1,s.plain.varTypes P,x.2.1⟩)&&decide (Rows.uptoBulkAll (x.1++x.2.1)≤1048576)
 |none=>false
theorem ar1 {P:Program}{w:World}{f:Func}{s:ChangeSpec}{conds:List PathCond}{apart:Bool}{args:Array Value}{jY:Nat}(h:Fg enc P f s conds apart w args jY=true):(Rows.OpenSpec.upto s).pre enc P f conds apart w args:=by
 unfold Fg at h
 split at h
 ·rename_i x ab
  rw[Bool.and_eq_true]at h
  exact⟨x.1,x.2.1,x.2.2,DataW.Whole_of_whole ab,h.1,h.2⟩
 ·cases h
theorem aM8 {C:Checked}{os:Os}{f:FuncId}{fn:Func}{s:ChangeSpec}{conds:List PathCond}{apart:Bool}{X:World→Array Value→Prop}(modest:Bool) (wi:World) (args:Array Value) (jY:Nat) (Bt:wi.os=os)
  (Ev:(wi.forCall (fun _ _=>0) ⟨#[],args,[]⟩).Shaped C.prog)
  (iy:Input.okWideB C.prog (wi.forCall (fun _ _=>0) ⟨#[],args,[]⟩) f ⟨#[],args,[]⟩=true)
  (xm:Fg enc C.prog fn s conds apart (wi.forCall (fun _ _=>0) ⟨#[],args,[]⟩).memory args jY=true)
  (dm:s.sizedB enc C.prog fn apart (wi.forCall (fun _ _=>0) ⟨#[],args,[]⟩).memory args jY=true)
  (ab:X (wi.forCall (fun _ _=>0) ⟨#[],args,[]⟩).memory args):
  ∃(w:World) (tape:Tape) (i:Input),w.os=os∧(w.forCall tape i).Shaped C.prog∧i.vars=[]∧Input.okWide C.prog (w.forCall tape i) .any w.heap.size f i∧
   (((Rows.OpenSpec.upto s).pre enc C.prog fn conds apart (w.forCall tape i).memory i.args∧X (w.forCall tape i).memory i.args)∧sizedMet enc C.prog fn (Rows.OpenSpec.upto s) apart (w.forCall tape i).memory i.args)∧({modest:=modest}:Assume).holds C.prog (lone (Frame.enter C.prog f i.args .normal) [] (w.forCall tape i)):=
 ⟨wi,fun _ _=>0,⟨#[],args,[]⟩,Bt,Ev,(Input.okWide_of_okWideB (base:=0) iy).1,(Input.okWide_of_okWideB iy).2,⟨⟨ar1 xm,ab⟩,sizedMet_of_sizedB dm⟩,by
  simp only[Assume.holds]
  exact⟨by simp,by simp,fun _=>Modest.zero,by simp,by simp⟩⟩
end
end Go.Proofs.YtjkbgcgljnldeaaGreatDoor
namespace Go.bc
open Go Go.bc.T.N
def cD (x:ad):e9:=⟨[83],[97],[80],[],[],[⟨[109],[98],[],[x]⟩]⟩
def tq (u:bH):bH:=vZ [83] [97] [80]++(dH [111,102,102,101,114]::dH [109]::cy [40]::cy [41]::dH [116,111]::dH [98]::dH [119,104,101,114,101]::(u++[cy [59],cy [125]]))
theorem Gc {w:a7}{u:bH}(h: ∀(r q:a7) (us:bH),ki r=false→aT r q us→aT (w++r) q (u++us)):aT (lb++w++p1) [] (tq u):=by
 rw[List.append_assoc]
 unfold lb tq vZ
 simp only[List.cons_append,List.nil_append]
 refine aT.my (w:=[115,101,114,118,105,99,101]) rfl ?_
 refine aT.my (w:=[83]) rfl ?_
 refine aT.my (w:=[112,108,97,121,115]) rfl ?_
 refine aT.my (w:=[97]) rfl ?_
 refine aT.my (w:=[111,102]) rfl ?_
 refine aT.my (w:=[80]) rfl ?_
 refine aT.lone rfl (aT.ft ?_)
 refine aT.my (w:=[111,102,102,101,114]) rfl ?_
 refine aT.name (w:=[109]) rfl rfl (aT.lone rfl (aT.lone rfl (aT.ft ?_)))
 refine aT.my (w:=[116,111]) rfl ?_
 refine aT.my (w:=[98]) rfl ?_
 refine aT.my (w:=[119,104,101,114,101]) rfl ?_
 refine h _ _ _ rfl ?_
 exact aT.lone rfl (aT.ft (aT.lone rfl (aT.refl [])))
theorem GH {u:bH}{x:ad}{n0:Nat}(h: ∀n,n0≤n→gY 0 n 1 (u++[cy [59],cy [125]])= .ok x [cy [59],cy [125]]): ∃n,lo 0 n (tq u)= .ok (cD x) []:=by
 refine⟨n0+2,?_⟩
 unfold tq vZ
 simp only[List.cons_append,List.nil_append,lo]
 rw[uD,okB,p0 rfl,okB,uD,okB,p0 rfl,okB,uD,okB,p0 rfl,okB,mC,okB]
 have ar: ∀r,lp 0 (n0+2) (n0+2) [] (dH [111,102,102,101,114]::r)= .ok [] (dH [111,102,102,101,114]::r):=fun r=>by
  rw[lp,kb,if_neg (by decide)]
 have ax: ∀r,nU 0 (n0+2) (dH [109]::cy [40]::r)= .ok [109] (cy [40]::r):=fun r=>by
  rw[nU,p0 rfl,okB,l6,lf,if_neg (by decide)]
 have cw: ∀r,nj 0 (n0+2) (cy [41]::r)= .ok [] r:=fun r=>by
  rw[nj,lf,if_pos (by decide)]
  rfl
 rw[ar,okB,ln,kb,if_neg (by decide),kb,if_neg (by decide),uD,okB,nl,ax,okB,mC,okB,cw,okB,uD,okB,p0 rfl,okB,ox,kb,if_pos (by decide),List.tail_cons,h _ (by omega),okB,okB,mC,okB,okB,ln,lf,if_pos (by decide),okB]
 rfl
theorem JO {n:Nat}{us:bH}{x:e9}(a6:lo 0 n us= .ok x []){kW:List ba}(Ew:kW.map ba.c=us) (en:Int):lo en (3*kW.length+2) kW= .ok x []:=by
 rw[←Ew]at a6
 have J:=ao7 en 0 n kW
 rw[a6]at J
 have aa:lo en n kW= .ok x []:=by
  cases hp:lo en n kW with
  |out=>rw[hp]at J; exact J.elim
  |err p e=>rw[hp]at J; exact J.elim
  |ok y r=>
   rw[hp]at J
   obtain⟨ar,ax⟩:=J
   have:r=[]:=by
    cases r with
    |nil=>rfl
    |cons t r=>simp at ax
   rw[this,ar]
 have au:=Oq (en:=en) (n:=3*kW.length+2) (l:=kW) (Nat.le_refl _)
 have bn:=Ot au (Nat.le_max_left (3*kW.length+2) n)
 have bL:=Ot (en:=en) (n:=n) (l:=kW) (by rw[aa]; exact fr) (Nat.le_max_right (3*kW.length+2) n)
 rw[←bn,bL,aa]
theorem J9 {s:a7}{us:bH}{x:e9}{n:Nat}(J:aT s [] us) (ap:s.length≤8000) (a6:lo 0 n us= .ok x []) (aY:kJ x=true):tb s=(x,0,0):=by
 obtain⟨kW,ar,ax⟩:=aT.fin J ap
 have hp:=JO a6 ax (s.length:Int)
 unfold tb
 rw[ar]
 simp only[BX,hp]
 rw[if_pos aY]
theorem xH {w:a7}{u:bH}{x:ad}{n0:Nat}(J: ∀(r q:a7) (us:bH),ki r=false→aT r q us→aT (w++r) q (u++us)) (aa: ∀n,n0≤n→gY 0 n 1 (u++[cy [59],cy [125]])= .ok x [cy [59],cy [125]]) (hw:w.length≤1000) (aY:kJ (cD x)=true):nm w=(x,true):=by
 obtain⟨n,a6⟩:=GH aa
 unfold nm
 rw[J9 (Gc J) (by simp only[List.length_append,lb,p1,List.length_cons,List.length_nil]; omega) a6 aY]
 rfl
theorem wj {x:ad}(h:kJ (cD x)=true):dB x=true:=by
 simp only[kJ,py,cD,List.all_cons,List.all_nil,Bool.and_eq_true]at h
 obtain⟨_,⟨_,_,h,_⟩,_⟩:=h
 obtain⟨_,g2,_⟩:=yJ h
 simpa using g2
theorem JY {x:ad}(aY:kJ (cD x)=true) (aH:(cm x).length≤300):nm (cm x)=(x,true):=by
 have he:=wj aY
 obtain⟨n0,aw⟩:=xI he (vY [59] [cy [125]] (by decide))
 exact xH (n0:=n0) (fun r q us ag h=>aT.ex he ag h) (fun n a6=>uC aw a6) (by omega) aY
theorem JZ {x:ad}(aY:kJ (cD x)=true) (aH:(cm x).length≤300):nm ([40,40]++cm x++[41,41])=(x,true):=by
 have he:=wj aY
 have aw:k0 1 ((cy [40]::cy [40]::(gF x++[cy [41],cy [41]]))++[cy [59],cy [125]]) x [cy [59],cy [125]]:=by
  simp only[List.cons_append,List.append_assoc,List.nil_append]
  refine k0.mk (js.ap8 ?_) (k6.stop (vY [59] _ (by decide)))
  refine k0.mk (js.ap8 ?_) (k6.stop (RZ (Int.le_refl _) _))
  exact xI he (RZ (Int.le_refl _) _)
 obtain⟨n0,aw⟩:=aw
 refine xH (n0:=n0) (u:=cy [40]::cy [40]::(gF x++[cy [41],cy [41]])) (fun r q us ag h=> ?_) (fun n a6=>uC aw a6) (by simp only[List.length_append,List.length_cons,List.length_nil]; omega) aY
 simp only[List.append_assoc,List.cons_append,List.nil_append]
 exact aT.lone rfl (aT.lone rfl (aT.ex he rfl (aT.lone rfl (aT.lone rfl h))))
end Go.bc
namespace Go.bc.T.N
open Go Go.bc Go.Proofs Go.RowKit
set_option maxRecDepth 100000
attribute [local irreducible] Go.bc.aj Go.bc.ae Go.bc.bz
section
attribute [local go_sem] ad.ct ac.ct ad.b9 ac.b9 cj eN fZ gJ dp of_flat
attribute [local go_sem] cb.row dG fG mV
theorem rb (r:List I) (x:ad) (ag:r=x.row):e7 [.agg [.str [83],.str [97],.str [80],.aV,.aV,.ay 4 [[.str [109],.str [98],.aV,.ay 6 [r]]]]] [(cD x).ir]:=by
 have e:(cD x).ir= .agg [.str [83],.str [97],.str [80],.ay 7 [],.ay 4 [],.ay 4 [[.str [109],.str [98],.ay 6 [],.ay 6 [r]]]]:=by
  rw[lq,ag]
  simp only[cD,List.map_cons,List.map_nil,gJ]
 rw[e]
 exact Hn (Hm (Hn (eI.refl _) (Hn (eI.refl _) (Hn (eI.refl _) (Hn eI.nil (Hn eI.nil (Hn (Fy (.cons (Hn (eI.refl _) (Hn (eI.refl _) (Hn eI.nil (Hn (eI.refl _) Tm)))) .nil)) Tm))))))) Tm
theorem MZ {R:Nat}(an:R≤140737488355328) (j7:88≤R) (ui:Pure Tryz.prog 11 [] (.bool true)) (x:ad) (ab:x.ok R) (D6:x.bI≤10000000):Pure Tryz.prog 8 [.agg x.row] (.bool true):=by
 have iy:(cD x).ok R:=by
  refine⟨?_,?_,?_,?_,?_,?_,?_,?_,?_⟩
  all_goals simp only[cD,List.length_cons,List.length_nil,List.not_mem_nil,false_imp_iff,implies_true]
  all_goals try omega
  intro o aq
  simp only[List.mem_cons,List.not_mem_nil,or_false]at aq
  subst aq
  refine⟨by simp only[List.length_cons,List.length_nil]; omega,by simp only[List.length_cons,List.length_nil]; omega,by simp only[List.length_nil]; omega,trivial,by simp only[List.length_cons,List.length_nil]; omega,?_⟩
  exact⟨ab,trivial⟩
 have f1:=av4 an (cD x) iy
 cases aW:ub (cD x) with
 |false=>
  rw[aW]at f1
  replace f1:=f1.le (rb _ x rfl)
  obtain⟨k,o,m,t,n,l⟩:=x
  simp(disch:=omega)only[go_sem,simprocAttr]at f1
  refine cF bN Tryz.func8 sI (by simp only[b3,I.flat,ad.de,Bool.and_self]) rfl ?_
  unfold ra aR8
  simp(disch:=omega)only[go_sem,simprocAttr]
  refine ao ?_
  refine D.P (ui) ?_
  refine ao ?_
  refine D.P (f1) ?_
  refine ao ?_
  first|refine D.R ?_|refine D.E ?_
  exact⟨_,rfl,.av rfl rfl,trivial,trivial⟩
 |true=>
 rw[aW]at f1
 replace f1:=f1.le (rb _ x rfl)
 have hb:oI (cD x):=XN (by simp [cD,ph]) (by simp only[cD,pi,ad.bB]; omega) aW
 have vg:=O0 (cD x) hb (by simp [cD]) (by simp [cD])
 have fa:x.bI≤10000:=by
  have:=(hb.o6 ⟨[109],[98],[],[x]⟩ (by simp [cD])).2
  simp only[ad.bB]at this
  omega
 cases aY:kJ (cD x) with
 |false=>
  rw[aY]at vg
  replace vg:=vg.le (rb _ x rfl)
  obtain⟨k,o,m,t,n,l⟩:=x
  simp(disch:=omega)only[go_sem,simprocAttr]at f1
  simp(disch:=omega)only[go_sem,simprocAttr]at vg
  refine cF bN Tryz.func8 sI (by simp only[b3,I.flat,ad.de,Bool.and_self]) rfl ?_
  unfold ra aR8
  simp(disch:=omega)only[go_sem,simprocAttr]
  refine ao ?_
  refine D.P (ui) ?_
  refine ao ?_
  refine D.P (f1) ?_
  refine ao ?_
  refine D.P (vg) ?_
  refine ao ?_
  first|refine D.R ?_|refine D.E ?_
  exact⟨_,rfl,.av rfl rfl,trivial,trivial⟩
 |true=>
 rw[aY]at vg
 replace vg:=vg.le (rb _ x rfl)
 have he:=wj aY
 have GI:(cm x).length≤9000000:=Nat.le_trans (F4 he) (by omega)
 have JX:=(th x.bI).1 x (Nat.le_refl _) he (by omega)
 have c1:=B9 (cm x)
 have c2:=B9 ([40,40]++cm x++[41,41])
 have GI:(cm x).length≤8000:=by
  simp only[kJ,Bool.and_eq_true,decide_eq_true_eq]at aY
  have:=aY.2.2
  simp only[iK,cD,jJ,eE,p9,List.map_cons,List.map_nil,List.flatten_cons,List.flatten_nil,List.length_append,List.length_cons,List.length_nil]at this
  omega
 replace c1:=c1 (by omega)
 replace c2:=c2 (by simp only[List.length_append,List.length_cons,List.length_nil]; omega)
 have s1:=Ka x x (by omega)
 rw[KP]at s1
 by_cases au:(cm x).length≤300
 ·rw[JY aY au]at c1
  rw[JZ aY au]at c2
  simp only[q0]at c1 c2
  clear iy ab aY he hb aW
  generalize cm x=S at*
  obtain⟨k,o,m,t,n,l⟩:=x
  simp(disch:=omega)only[go_sem,simprocAttr]at f1
  simp(disch:=omega)only[go_sem,simprocAttr]at vg
  simp(disch:=omega)only[go_sem,simprocAttr]at JX
  simp(disch:=omega)only[go_sem,simprocAttr]at c1
  simp(disch:=omega)only[go_sem,simprocAttr]at c2
  simp(disch:=omega)only[go_sem,simprocAttr]at s1
  have d1: ¬(300:Int)<(S.length:Int):=by omega
  refine cF bN Tryz.func8 sI (by simp only[b3,I.flat,ad.de,Bool.and_self]) rfl ?_
  unfold ra aR8
  simp(disch:=omega)only[go_sem,simprocAttr]
  refine ao ?_
  refine D.P (ui) ?_
  refine ao ?_
  refine D.P (f1) ?_
  refine ao ?_
  refine D.P (vg) ?_
  refine ao ?_
  refine D.P (JX) ?_
  refine ao ?_
  refine D.P (c1) ?_
  refine ao ?_
  refine D.bR ?_
  refine ao ?_
  refine D.bR ?_
  refine ao ?_
  refine D.P (c2) ?_
  (have al:=d1;refine bQ ?_;clear al)
  refine D.P (s1) ?_
  refine ao ?_
  refine D.P (s1) ?_
  refine ao ?_
  first|refine D.R ?_|refine D.E ?_
  exact⟨_,rfl,.av rfl rfl,trivial,trivial⟩
 ·clear iy ab aY he hb aW
  generalize cm x=S at*
  obtain⟨⟨⟨bC,gQ,m1,t1,li,aM⟩,eB⟩,Hx⟩: ∃q,q=nm S:=⟨_,rfl⟩
  obtain⟨⟨⟨bA,gv,m2,t2,mA,dZ⟩,dU⟩,ZL⟩: ∃q,q=nm ([40,40]++S++[41,41]):=⟨_,rfl⟩
  rw[←Hx]at c1
  rw[←ZL]at c2
  simp only[q0]at c1 c2
  obtain⟨k,o,m,t,n,l⟩:=x
  simp(disch:=omega)only[go_sem,simprocAttr]at f1
  simp(disch:=omega)only[go_sem,simprocAttr]at vg
  simp(disch:=omega)only[go_sem,simprocAttr]at JX
  simp(disch:=omega)only[go_sem,simprocAttr]at c1
  simp(disch:=omega)only[go_sem,simprocAttr]at c2
  have d1:(300:Int)<(S.length:Int):=by omega
  refine cF bN Tryz.func8 sI (by simp only[b3,I.flat,ad.de,Bool.and_self]) rfl ?_
  unfold ra aR8
  simp(disch:=omega)only[go_sem,simprocAttr]
  refine ao ?_
  refine D.P (ui) ?_
  refine ao ?_
  refine D.P (f1) ?_
  refine ao ?_
  refine D.P (vg) ?_
  refine ao ?_
  refine D.P (JX) ?_
  refine ao ?_
  refine D.P (c1) ?_
  refine ao ?_
  refine D.bR ?_
  refine ao ?_
  refine D.bR ?_
  refine ao ?_
  refine D.P (c2) ?_
  (have al:=d1;refine bQ ?_;clear al)
  first|refine D.R ?_|refine D.E ?_
  exact⟨_,rfl,.av rfl rfl,trivial,trivial⟩
theorem N3 (x:ad) (ab:x.ok reachBytes) (hb:iI x.row≤1048576):Pure Tryz.prog 8 [.agg x.row] (.bool true):=
 MZ (R:=reachBytes) (by decide) (by decide) as6 x ab (by have:=x.An; omega)
end
end Go.bc.T.N
set_option maxRecDepth 100000
namespace Go.bc.T.N
open Go Go.bc Go.Proofs Go.ChangeShapes Go.WideShapes Go.RowKit
section
variable {R:Nat}{H:Type}{enc:TypeId×Value→H}{w:World}{base:Nat}{spare:Nat→Bool}{held:Bool}
theorem HJ {v:Value}{x:DataW H}{p:List MemPlace}{r:Reach}{hi:Nat}(aB: ∀n∈DataW.weights Tryz.prog 51 x,n≤R) (af:Value.okWide Tryz.prog w r hi 51 v) (h:DataW.Trod enc Tryz.prog w base spare held 51 v x p):
  ∃q:ad,(q.ok R∧iI q.row≤jE x)∧∀m:Mem,m.w=w→m.H=aA.none→aR m (.agg q.row) v:=by
 obtain⟨n,kf,⟨J,aa⟩,au⟩:=aD9 Xn Tryz.underlying51 RF aB af h
 obtain⟨q,rfl,bG⟩:=KO (n+1) kf ⟨_,RF,J⟩
 exact⟨q,⟨bG,aa⟩,au⟩
end
end Go.bc.T.N
