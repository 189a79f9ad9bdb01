/- Part of a proof; own work. -/
import Derived.Test.YtjkbgcgljnldeaaGreatDoorProg
import Derived.KernelRfl
import Derived.JoinedCond
import Derived.Test.YtjkbgcgljnldeaaGreatDoorRows
import Derived.Test.YtjkbgcgljnldeaaGreatDoorRS12
set_option linter.unusedVariables false
set_option linter.unusedSimpArgs false
set_option maxHeartbeats 8000000
namespace Go.bc
open Go Go.bc.T.N
theorem aj1 (d:Nat) (ps:List a7) (r:a7):eE d ps++r=List.replicate d 9++(ps.flatten++10::r):=by simp [eE]
theorem aT.line {d:Nat}{ps:List a7}{r q:a7}{us:bH}(h:aT (ps.flatten++10::r) q us):aT (eE d ps++r) q us:=by
 rw[aj1]
 exact aT.kj h d
theorem aT.my {w r q:a7}{us:bH}(hw:mx w=true) (h:aT r q us):aT (w++32::r) q (dH w::us):=aT.name hw rfl (aT.ft h)
def G1 (N:Nat):Prop:=∀(x:ac),x.bI≤N→hX x=true→∀(d:Nat) (r q:a7) (us:bH),aT r q us→aT (ac.gS d [105,102,32] x++r) q (kp x++us)∧(x.kind=2→aT (ac.gS d [125,32,101,108,115,101,32,105,102,32] x++r) q (cy [125]::dH [101,108,115,101]::(kp x++us)))
theorem zd {N:Nat}(mo:G1 N): ∀(l:List ac),ac.bB l≤N→ho l=true→∀(d:Nat) (r q:a7) (us:bH),aT r q us→aT (ac.fF d l++r) q (k0 l++us)
 |[],_,_,d,r,q,us,h=>h
 |x::l,bW,aY,d,r,q,us,h=>by
  simp only[ac.bB]at bW
  simp only[ho,Bool.and_eq_true]at aY
  simp only[ac.fF,k0,List.append_assoc]
  exact (mo x (by omega) aY.1 d _ _ _ (zd mo l (by omega) aY.2 d r q us h)).1
theorem y7: ∀N,G1 N
 |0,x,h,_=>by cases x; simp only[ac.bI]at h; omega
 |N+1,x,bW,aY=>by
  intro d r q us h
  rcases AK aY with ⟨m,y,rfl,J,aa⟩|⟨y,a,b,rfl,aZ,aP,hb⟩|⟨y,t,a,rfl,aw,J,aZ,aP⟩
  ·refine⟨?_,fun h=>absurd h (by show ¬(1:Int)=2; decide)⟩
   simp only[ac.gS,kp,if_true]
   refine aT.line ?_
   simp only[List.flatten_cons,List.flatten_nil,List.append_nil,List.append_assoc,List.cons_append,List.nil_append]
   refine aT.word J rfl (aT.ft (aT.eq (aT.ft (aT.ex aa rfl (aT.lone rfl (aT.kQ h))))))
  ·simp only[ac.bI]at bW
   have key: ∀(bw:a7) (ay:bH) (f: ∀(z:a7) (ws:bH),aT z q ws→aT (bw++z) q (ay++ws)),aT (ac.gS d bw (.mk 2 [] y 0 a b)++r) q (ay++((gF y++cy [123]::(k0 a++cy [125]::(if jH b=true then zy b else if b.isEmpty=true then[] else dH [101,108,115,101]::cy [123]::(k0 b++[cy [125]]))))++us)):=by
    intro bw ay f
    simp only[ac.gS,show ¬(2:Int)=1 by decide,show ¬(2:Int)=3 by decide,if_false,List.append_assoc]
    refine aT.line ?_
    simp only[List.flatten_cons,List.flatten_nil,List.append_nil,List.append_assoc,List.cons_append,List.nil_append]
    refine f _ _ (aT.ex aZ rfl (aT.ft (aT.lone rfl (aT.kQ (zd (y7 N) a (by omega) aP (d+1) _ _ _ ?_)))))
    by_cases oo:b=[]
    ·subst oo
     simp only[jH,List.isEmpty_nil,Bool.false_eq_true,if_false,if_true,List.nil_append]
     refine aT.line ?_
     exact aT.lone rfl (aT.kQ h)
    cases eU:jH b with
    |true=>
     simp only[if_true]
     match b,eU,hb,bW with
     |[gz],eU,hb,bW=>
     have aC:gz.kind=2:=of_decide_eq_true eU
     simp only[ho,Bool.and_true]at hb
     simp only[ac.bB]at bW
     simp only[ac.rC,zy,List.cons_append]
     exact (y7 N gz (by omega) hb d r q us h).2 aC
    |false=>
     have xf:b.isEmpty=false:=by cases b with|nil=>exact absurd rfl oo|cons _ _=>rfl
     simp only[xf,Bool.false_eq_true,if_false,List.append_assoc,List.cons_append]
     refine aT.line ?_
     simp only[List.flatten_cons,List.flatten_nil,List.append_nil,List.cons_append,List.nil_append]
     refine aT.lone (c:=125) rfl (aT.ft ?_)
     refine aT.my (w:=[101,108,115,101]) rfl (aT.lone (c:=123) rfl (aT.kQ ?_))
     refine zd (y7 N) b (by omega) hb (d+1) _ _ _ ?_
     refine aT.line ?_
     exact aT.lone rfl (aT.kQ h)
   have e:kp (.mk 2 [] y 0 a b)=[dH [105,102]]++(gF y++cy [123]::(k0 a++cy [125]::(if jH b=true then zy b else if b.isEmpty=true then[] else dH [101,108,115,101]::cy [123]::(k0 b++[cy [125]])))):=by
    simp only[kp,show ¬(2:Int)=1 by decide,show ¬(2:Int)=3 by decide,if_false,List.cons_append,List.nil_append]
   refine⟨?_,fun _=> ?_⟩
   ·rw[e,List.append_assoc]
    exact key _ _ fun z ws aB=>aT.my (w:=[105,102]) rfl aB
   ·rw[e,List.append_assoc]
    have:=key [125,32,101,108,115,101,32,105,102,32] [cy [125],dH [101,108,115,101],dH [105,102]] fun z ws aB=>by
     simp only[List.cons_append,List.nil_append]
     refine aT.lone (c:=125) rfl (aT.ft ?_)
     exact aT.my (w:=[101,108,115,101]) rfl (aT.my (w:=[105,102]) rfl aB)
    exact this
  ·refine⟨?_,fun h=>absurd h (by show ¬(3:Int)=2; decide)⟩
   simp only[ac.bI]at bW
   simp only[ac.gS,kp,show ¬(3:Int)=1 by decide,if_true,if_false,List.append_assoc,List.cons_append,List.nil_append]
   refine aT.line ?_
   simp only[List.flatten_cons,List.flatten_nil,List.append_nil,List.append_assoc,List.cons_append,List.nil_append]
   refine aT.my (w:=[119,104,105,108,101]) rfl ?_
   refine aT.ex aZ rfl (aT.ft ?_)
   refine aT.my (w:=[116,105,109,101,115]) rfl ?_
   refine aT.int (by omega) (by omega) rfl (aT.ft (aT.lone rfl (aT.kQ ?_)))
   refine zd (y7 N) a (by omega) aP (d+1) _ _ _ ?_
   refine aT.line ?_
   exact aT.lone rfl (aT.kQ h)
def uQ:List a7→bH
 |[]=>[]
 |w::ws=>cy [46]::dH w::uQ ws
def Gg:List a7→bH
 |[]=>[]
 |w::ws=>dH w::uQ ws
def xy (m:a7):bH:=Gg (iS m)
def qf:List a7→a7
 |[]=>[]
 |w::ws=>46::w++qf ws
def Ck:List a7→a7
 |[]=>[]
 |w::ws=>w++qf ws
theorem zw (s:a7):iS s≠[]:=by
 cases s with
 |nil=>simp [iS]
 |cons c s=>
  simp only[iS]
  split
  ·simp
  ·split<;>simp
theorem Gj: ∀s:a7,Ck (iS s)=s
 |[]=>rfl
 |c::s=>by
  have cv:=Gj s
  have dw:=zw s
  simp only[iS]
  split
  ·rename_i h
   subst h
   cases ap:iS s with
   |nil=>exact absurd ap dw
   |cons w ws=>
    rw[ap]at cv
    simp only[Ck,qf,List.nil_append,List.cons_append]at cv ⊢
    rw[cv]
  ·cases ap:iS s with
   |nil=>exact absurd ap dw
   |cons w ws=>
    rw[ap]at cv
    simp only[Ck,List.cons_append]at cv ⊢
    rw[cv]
theorem Xo {w r q:a7}{us:bH}(hw:db w=true) (h:aT (w++r) q us):aT (46::(w++r)) q (cy [46]::us):=by
 cases w with
 |nil=>simp [db,mx]at hw
 |cons c w=>
  simp only[db,mx,Bool.and_eq_true]at hw
  have ah:c≠46:=by rintro rfl; exact absurd hw.1.2.1 (by decide)
  refine aT.m1 (by decide) ?_ ?_ h
  ·show ([46,c]:a7)∉gO
   simp [gO,ah]
  ·show ([46,c]:a7)≠ _
   simp
theorem Mn (ws:List a7){r:a7}(ag:ki r=false):ki (qf ws++r)=false:=by
 cases ws with
 |nil=>exact ag
 |cons w ws=>rfl
theorem aT.qf: ∀(ws:List a7),ws.all db=true→∀(r q:a7) (us:bH),ki r=false→aT r q us→aT (bc.qf ws++r) q (uQ ws++us)
 |[],_,r,q,us,ag,h=>h
 |w::ws,hw,r,q,us,ag,h=>by
  simp only[List.all_cons,Bool.and_eq_true]at hw
  simp only[bc.qf,uQ,List.cons_append,List.append_assoc]
  exact Xo hw.1 (aT.word hw.1 (Mn ws ag) (aT.qf ws hw.2 r q us ag h))
theorem aT.path {m r q:a7}{us:bH}(hm:kR m=true) (ag:ki r=false) (h:aT r q us):aT (m++r) q (xy m++us):=by
 simp only[kR,Bool.and_eq_true,Ga]at hm
 have hu:=Gj m
 unfold xy
 cases ap:iS m with
 |nil=>exact absurd ap (zw m)
 |cons w ws=>
  rw[ap]at hm hu
  simp only[List.all_cons,Bool.and_eq_true]at hm
  rw[←hu]
  simp only[Ck,Gg,List.append_assoc,List.cons_append]
  exact aT.word hm.2.1 (Mn ws ag) (aT.qf ws hm.2.2 r q us ag h)
def p5 {α:Type}(f:α→bH):List α→bH
 |[]=>[]
 |x::l=>cy [44]::(f x++p5 f l)
def rf {α:Type}(f:α→bH):List α→bH
 |[]=>[]
 |x::l=>f x++p5 f l
theorem ag9 (x:a7) (l:List a7):Lib.join (x::l) [44,32]=x++(l.map ([44,32]++ ·)).flatten:=by
 rw[Lib.join_cons]; rfl
theorem aT.Ij {α:Type}{f:α→bH}{g:α→a7}{P:α→Prop}(aW: ∀x,P x→∀(r q:a7) (us:bH),ki r=false→aT r q us→aT (g x++r) q (f x++us)): ∀(l:List α),(∀x∈l,P x)→∀(r q:a7) (us:bH),ki r=false→aT r q us→aT (((l.map g).map ([44,32]++ ·)).flatten++r) q (p5 f l++us)
 |[],_,r,q,us,ag,h=>h
 |x::l,aH,r,q,us,ag,h=>by
  have cv:=aT.Ij aW l (fun y aZ=>aH y (List.mem_cons_of_mem _ aZ)) r q us ag h
  simp only[List.map_cons,List.flatten_cons,p5,List.cons_append,List.nil_append,List.append_assoc]
  refine aT.lone rfl (aT.ft (aW x (aH x List.mem_cons_self) _ _ _ ?_ cv))
  cases l with
  |nil=>exact ag
  |cons y l=>rfl
theorem aT.N4 {α:Type}{f:α→bH}{g:α→a7}{P:α→Prop}(aW: ∀x,P x→∀(r q:a7) (us:bH),ki r=false→aT r q us→aT (g x++r) q (f x++us)) (l:List α) (aH: ∀x∈l,P x) (r q:a7) (us:bH) (ag:ki r=false) (h:aT r q us):aT (Lib.join (l.map g) [44,32]++r) q (rf f l++us):=by
 cases l with
 |nil=>exact h
 |cons x l=>
  rw[List.map_cons,ag9,List.append_assoc]
  simp only[rf,List.append_assoc]
  refine aW x (aH x List.mem_cons_self) _ _ _ ?_ (aT.Ij aW l (fun y aZ=>aH y (List.mem_cons_of_mem _ aZ)) r q us ag h)
  cases l with
  |nil=>exact ag
  |cons y l=>rfl
def nr (z:Int):bH:=if z<0 then[cy [45],kr (-z)] else[kr z]
theorem aT.F5 {z:Int}{r q:a7}{us:bH}(aw: -1000000<z) (J:z<1000000) (ag:ki r=false) (h:aT r q us):aT (Lib.itoa z++r) q (nr z++us):=by
 unfold nr
 by_cases aB:z<0
 ·rw[if_pos aB,ae6 aB]
  obtain⟨c,y,ap,_,c2⟩:=(I9 (-z).toNat).dM (r:=r)
  have:=aT.num (n:=(-z).toNat) (by omega) ag h
  rw[show (((-z).toNat:Nat):Int)= -z by omega]at this
  rw[List.cons_append]
  rw[ap]at this ⊢
  exact aT.minus c2 this
 ·rw[if_neg aB]
  exact aT.int (by omega) J ag h
def tr (k n:Int) (s:a7):bH:=if k=2 then[p6 s] else nr n
def q4 (v:cb):bH:=dH [118,97,114]::dH v.name::cy [58]::dH (if v.hV=2 then[116,101,120,116] else[105,110,116])::(nr v.cz++cy [46,46]::(nr v.ai++cy [61]::(tr v.ik v.n v.s++[cy [59]])))
def th (h:cd):bH:=dH [111,110]::(xy h.eK++cy [40]::(rf (fun w=>[dH w]) h.ps++cy [41]::dH [102,114,111,109]::dH h.peer::cy [123]::(k0 h.body++[cy [125]])))
def vZ:List ad→bH
 |[]=>[]
 |x:: _=>dH [119,104,101,114,101]::gF x
def uD (o:ca):bH:=dH [111,102,102,101,114]::(xy o.eK++cy [40]::(rf gF o.args++cy [41]::dH [116,111]::dH o.peer::(vZ o.dT++[cy [59]])))
theorem Lx {v:cb}(h:iN v=true):db v.name=true∧ -1000000<v.cz∧v.cz<1000000∧ -1000000<v.ai∧v.ai<1000000∧((v.hV=1)∨(v.hV=2∧0≤v.cz∧0≤v.ai))∧((v.ik=1∧ -1000000<v.n∧v.n<1000000∧v.s=[])∨(v.ik=2∧v.n=0∧lM v.s=true)):=by
 simp only[iN,Bool.and_eq_true,iX,decide_eq_true_eq,Bool.or_eq_true]at h
 obtain⟨aw,J,aa,aC,au⟩:=h
 refine⟨aw,by omega,by omega,by omega,by omega,aC,?_⟩
 by_cases bC:v.ik=1
 ·rw[if_pos bC]at au
  simp only[Bool.and_eq_true,decide_eq_true_eq]at au
  exact .inl ⟨bC,by omega,by omega,au.2⟩
 rw[if_neg bC]at au
 by_cases bA:v.ik=2
 ·rw[if_pos bA]at au
  simp only[Bool.and_eq_true,decide_eq_true_eq]at au
  exact .inr ⟨bA,au.1,au.2⟩
 ·rw[if_neg bA]at au
  cases au
theorem XB {r q:a7}{us:bH}(h:aT (32::r) q us):aT (46::46::32::r) q (cy [46,46]::us):=aT.m2 (by decide) h
theorem aT.aL6 {v:cb}(aY:iN v=true){r q:a7}{us:bH}(h:aT r q us):aT (jT v++r) q (q4 v++us):=by
 obtain⟨aw,J,aa,au,bn,aC,ai⟩:=Lx aY
 unfold jT
 refine aT.line ?_
 simp only[q4,List.flatten_cons,List.flatten_nil,List.append_nil,List.append_assoc,List.cons_append,List.nil_append]
 refine aT.my (w:=[118,97,114]) rfl ?_
 refine aT.word aw rfl (aT.lone rfl (aT.ft ?_))
 have wO:aT (qM v.ik v.n v.s++59::10::r) q (tr v.ik v.n v.s++cy [59]::us):=by
  unfold qM tr
  rcases ai with ⟨k,a,b,_⟩|⟨k,_,b⟩
  ·rw[if_neg (by omega),if_neg (by omega)]
   exact aT.F5 a b rfl (aT.lone rfl (aT.kQ h))
  ·rw[if_pos k,if_pos k]
   exact aT.text b (aT.lone rfl (aT.kQ h))
 have My:aT (Lib.itoa v.cz++32::46::46::32::(Lib.itoa v.ai++32::61::32::(qM v.ik v.n v.s++59::10::r))) q (nr v.cz++cy [46,46]::(nr v.ai++cy [61]::(tr v.ik v.n v.s++cy [59]::us))):=by
  refine aT.F5 J aa rfl (aT.ft (XB (aT.ft ?_)))
  exact aT.F5 au bn rfl (aT.ft (aT.eq (aT.ft wO)))
 rcases aC with k|⟨k,_⟩
 ·rw[if_neg (by omega),if_neg (by omega)]
  exact aT.my (w:=[105,110,116]) rfl My
 ·rw[if_pos k,if_pos k]
  exact aT.my (w:=[116,101,120,116]) rfl My
theorem aT.LJ {x:cd}(aY:jZ x=true){r q:a7}{us:bH}(h:aT r q us):aT (jb x++r) q (th x++us):=by
 obtain⟨g1,_⟩:=yI aY
 simp only[jZ,Bool.and_eq_true]at aY
 obtain⟨bC,bA,_,cO,_⟩:=aY
 unfold jb
 simp only[List.append_assoc]
 refine aT.line ?_
 simp only[th,List.flatten_cons,List.flatten_nil,List.append_nil,List.append_assoc,List.cons_append,List.nil_append]
 refine aT.my (w:=[111,110]) rfl ?_
 refine aT.path bC rfl (aT.lone rfl ?_)
 have r6: ∀z ay,ki z=false→aT z q ay→aT (Lib.join x.ps [44,32]++z) q (rf (fun w=>[dH w]) x.ps++ay):=fun z ay aB h=>by
  have:=aT.N4 (f:=fun w=>[dH w]) (g:=fun w:a7=>w) (P:=fun w=>db w=true) (fun w hw r q us ag h=>aT.word hw ag h) x.ps (fun w hw=>List.all_eq_true.1 cO w hw) z q ay aB h
  simpa using this
 refine r6 _ _ rfl (aT.lone rfl (aT.ft ?_))
 refine aT.my (w:=[102,114,111,109]) rfl ?_
 refine aT.word bA rfl (aT.ft (aT.lone rfl (aT.kQ ?_)))
 refine zd (y7 _) x.body (Nat.le_refl _) g1 2 _ _ _ ?_
 refine aT.line ?_
 exact aT.lone rfl (aT.kQ h)
theorem aT.ak6 {x:ca}(aY:j6 x=true){r q:a7}{us:bH}(h:aT r q us):aT (jJ x++r) q (uD x++us):=by
 obtain⟨g1,g2,g3⟩:=yJ aY
 simp only[j6,Bool.and_eq_true]at aY
 obtain⟨bC,bA,_⟩:=aY
 unfold jJ
 refine aT.line ?_
 simp only[uD,List.flatten_cons,List.flatten_nil,List.append_nil,List.append_assoc,List.cons_append,List.nil_append]
 refine aT.my (w:=[111,102,102,101,114]) rfl ?_
 refine aT.path bC rfl (aT.lone rfl ?_)
 refine aT.N4 (P:=fun x=>dB x=true) (fun y aZ r q us ag h=>aT.ex aZ ag h) x.args (fun y aZ=>List.all_eq_true.1 g1 y aZ) _ _ _ rfl (aT.lone rfl (aT.ft ?_))
 refine aT.my (w:=[116,111]) rfl ?_
 have wO:aT (59::10::r) q (cy [59]::us):=aT.lone rfl (aT.kQ h)
 cases hw:x.dT with
 |nil=>
  simp only[p9,vZ,List.nil_append]
  exact aT.word bA rfl wO
 |cons w ws=>
  rw[hw]at g2
  simp only[List.all_cons,Bool.and_eq_true]at g2
  simp only[p9,vZ,List.cons_append,List.nil_append]
  refine aT.word bA rfl (aT.ft ?_)
  exact aT.my (w:=[119,104,101,114,101]) rfl (aT.ex g2.1 rfl wO)
theorem aT.maps {α:Type}{f:α→bH}{g:α→a7}{P:α→Prop}(aW: ∀x,P x→∀(r q:a7) (us:bH),aT r q us→aT (g x++r) q (f x++us)): ∀(l:List α),(∀x∈l,P x)→∀(r q:a7) (us:bH),aT r q us→aT ((l.map g).flatten++r) q ((l.map f).flatten++us)
 |[],_,r,q,us,h=>h
 |x::l,aH,r,q,us,h=>by
  simp only[List.map_cons,List.flatten_cons,List.append_assoc]
  exact aW x (aH x List.mem_cons_self) _ _ _ (aT.maps aW l (fun y aZ=>aH y (List.mem_cons_of_mem _ aZ)) r q us h)
def Ch (a b c:a7):bH:=[dH [115,101,114,118,105,99,101],dH a,dH [112,108,97,121,115],dH b,dH [111,102],dH c,cy [123]]
theorem aT.Zu {a b c:a7}(aP:db a=true) (hb:db b=true) (ah:db c=true){r q:a7}{us:bH}(h:aT r q us):aT (eE 0 [[115,101,114,118,105,99,101,32],a,[32,112,108,97,121,115,32],b,[32,111,102,32],c,[32,123]]++r) q (Ch a b c++us):=by
 refine aT.line ?_
 simp only[Ch,List.flatten_cons,List.flatten_nil,List.append_nil,List.append_assoc,List.cons_append,List.nil_append]
 refine aT.my (w:=[115,101,114,118,105,99,101]) rfl ?_
 refine aT.word aP rfl (aT.ft ?_)
 refine aT.my (w:=[112,108,97,121,115]) rfl ?_
 refine aT.word hb rfl (aT.ft ?_)
 refine aT.my (w:=[111,102]) rfl ?_
 exact aT.word ah rfl (aT.ft (aT.lone rfl (aT.kQ h)))
theorem Ot: ∀(ws:List a7),ws.all db=true→∀(n:Nat) (s:a7) (r:bH),eQ [46] r=false→ws.length+1≤n→l6 0 n s (uQ ws++r)= .ok (s++qf ws) r
 |[],_,n,s,r,ag,a6=>by
  obtain⟨n,rfl⟩: ∃k,n=k+1:=⟨n-1,by omega⟩
  simp only[uQ,qf,List.nil_append,List.append_nil,l6]
  exact if_neg (by rw[ag]; decide)
 |w::ws,hw,n,s,r,ag,a6=>by
  obtain⟨n,rfl⟩: ∃k,n=k+1:=⟨n-1,by omega⟩
  simp only[List.length_cons]at a6
  simp only[List.all_cons,Bool.and_eq_true]at hw
  simp only[uQ,List.cons_append,l6,kW,decide_true,if_true,List.tail_cons]
  rw[qD hw.1,okB,Ot ws hw.2 n _ r ag (by omega)]
  simp [qf]
theorem Ox {m:a7}(hm:kR m=true){n:Nat}{r:bH}(ag:eQ [46] r=false) (a6:(iS m).length+1≤n):nU 0 n (xy m++r)= .ok m r:=by
 simp only[kR,Bool.and_eq_true,Ga]at hm
 have hu:=Gj m
 unfold xy
 cases ap:iS m with
 |nil=>exact absurd ap (zw m)
 |cons w ws=>
  rw[ap]at hm hu a6
  simp only[List.all_cons,Bool.and_eq_true]at hm
  simp only[List.length_cons]at a6
  simp only[Gg,List.cons_append,nU]
  rw[qD hm.2.1,okB,Ot ws hm.2.2 n w r ag (by omega)]
  rw[←hu]
  rfl
theorem Ok: ∀(ps:List a7),ps.all db=true→∀(n:Nat) (acc:List a7) (r:bH),eQ [44] r=false→ps.length+1≤n→lm 0 n acc (p5 (fun w=>[dH w]) ps++r)= .ok (acc++ps) r
 |[],_,n,acc,r,ag,a6=>by
  obtain⟨n,rfl⟩: ∃k,n=k+1:=⟨n-1,by omega⟩
  simp only[p5,List.nil_append,List.append_nil,lm]
  exact if_neg (by rw[ag]; decide)
 |w::ps,hw,n,acc,r,ag,a6=>by
  obtain⟨n,rfl⟩: ∃k,n=k+1:=⟨n-1,by omega⟩
  simp only[List.length_cons]at a6
  simp only[List.all_cons,Bool.and_eq_true]at hw
  simp only[p5,List.cons_append,List.nil_append,List.append_assoc,lm,kW,decide_true,if_true,List.tail_cons]
  rw[qD hw.1,okB,Ok ps hw.2 n _ r ag (by omega)]
  simp
theorem ao1 {ps:List a7}(hp:ps.all db=true){n:Nat}{r:bH}(a6:ps.length+1≤n):nn 0 n (rf (fun w=>[dH w]) ps++cy [41]::r)= .ok ps r:=by
 cases ps with
 |nil=>simp only[rf,List.nil_append,nn,kW,decide_true,if_true,List.tail_cons]
 |cons w ps=>
  simp only[List.length_cons]at a6
  simp only[List.all_cons,Bool.and_eq_true]at hp
  simp only[rf,List.cons_append,List.nil_append,List.append_assoc,nn,ka]
  rw[if_neg (by simpa using ss hp.1 _ (by decide)),qD hp.1,okB,Ok ps hp.2 n [w] _ (by rw[kW]; decide) (by omega),okB,mC,okB]
  rfl
theorem Ob: ∀(N:Nat) (x:ad),x.bI≤N→dB x=true→∀r,eQ [41] (gF x++r)=false
 |0,x,h,_,r=>by cases x; simp only[ad.bI]at h; omega
 |N+1,x,bW,aY,r=>by
  rcases wL aY with ⟨n,rfl,_,h⟩|⟨t,rfl,h⟩|⟨m,rfl,h⟩|⟨y,rfl,h⟩|⟨o,y,rfl,aq,h⟩|⟨o,y,z,rfl,aq,h,ij⟩
  ·exact E5 _ _ _
  ·exact MM _ _ _
  ·show eQ [41] (dH m::r)=false
   rw[ka]
   exact decide_eq_false (ss h _ (by decide))
  ·rfl
  ·show eQ [41] (cy o::(kf y (gF y) 7++r))=false
   rw[kW]
   rcases aq with rfl|rfl<;>decide
  ·simp only[ad.bI,ad.bB]at bW
   show eQ [41] (kf y (gF y) (cV o)++[cy o]++kf z (gF z) (cV o+1)++r)=false
   rw[List.append_assoc,List.append_assoc]
   unfold kf
   split
   ·rfl
   ·exact Ob N y (by omega) h _
theorem Of: ∀(l:List ad),l.all dB=true→∀(acc:List ad) (r:bH),∃cD,∀n,cD≤n→ll 0 n acc (p5 gF l++cy [41]::r)= .ok (acc++l) (cy [41]::r)
 |[],_,acc,r=>⟨1,fun n a6=>by
  obtain⟨n,rfl⟩: ∃k,n=k+1:=⟨n-1,by omega⟩
  simp only[p5,List.nil_append,List.append_nil,ll]
  exact if_neg (by rw[kW]; decide)⟩
 |x::l,aY,acc,r=>by
  simp only[List.all_cons,Bool.and_eq_true]at aY
  obtain⟨cD,aw⟩:=Of l aY.2 (acc++[x]) r
  have ap:pY 1 (p5 gF l++cy [41]::r):=by
   cases l with
   |nil=>exact vY _ _ (by decide)
   |cons y l=>exact vY _ _ (by decide)
  obtain⟨li,J⟩:=xx aY.1 ap
  refine⟨max cD li+1,fun n a6=> ?_⟩
  obtain⟨n,rfl⟩: ∃k,n=k+1:=⟨n-1,by omega⟩
  simp only[p5,List.cons_append,List.append_assoc,ll,kW,decide_true,if_true,List.tail_cons]
  rw[uc J (by omega),okB,aw n (by omega),List.append_assoc]
  rfl
theorem am5 {l:List ad}(aY:l.all dB=true) (r:bH): ∃cD,∀n,cD≤n→nj 0 n (rf gF l++cy [41]::r)= .ok l r:=by
 cases l with
 |nil=>exact⟨0,fun n _=>by simp only[rf,List.nil_append,nj,kW,decide_true,if_true,List.tail_cons]⟩
 |cons x l=>
  simp only[List.all_cons,Bool.and_eq_true]at aY
  obtain⟨cD,aw⟩:=Of l aY.2 [x] r
  have ap:pY 1 (p5 gF l++cy [41]::r):=by
   cases l with
   |nil=>exact vY _ _ (by decide)
   |cons y l=>exact vY _ _ (by decide)
  obtain⟨li,J⟩:=xx aY.1 ap
  refine⟨max cD li,fun n a6=> ?_⟩
  simp only[rf,List.append_assoc,nj]
  rw[if_neg (by rw[Ob _ x (Nat.le_refl _) aY.1]; decide),uc J (by omega),okB,aw n (by omega),okB,mC,okB]
  rfl
theorem ap5 {l:List ad}(aY:l.all dB=true) (aH:l.length≤1) (r:bH): ∃cD,∀n,cD≤n→ox 0 n (vZ l++cy [59]::r)= .ok l (cy [59]::r):=by
 match l,aY,aH with
 |[],_,_=>exact⟨0,fun n _=>by simp only[vZ,List.nil_append,ox,kW]; rw[if_neg (by decide)]⟩
 |[x],aY,_=>
  simp only[List.all_cons,List.all_nil,Bool.and_true]at aY
  obtain⟨li,J⟩:=xx aY (vY [59] r (by decide))
  refine⟨li,fun n a6=> ?_⟩
  simp only[vZ,List.cons_append,ox,ka,decide_true,if_true,List.tail_cons]
  rw[uc J a6,okB]
 | _:: _:: _,_,aH=>simp at aH
theorem an8 {o:ca}(aY:j6 o=true) (r:bH): ∃cD,∀n,cD≤n→nl 0 n ((uD o).tail++r)= .ok o r:=by
 obtain⟨g1,g2,g3⟩:=yJ aY
 simp only[j6,Bool.and_eq_true]at aY
 obtain⟨bC,bA,_⟩:=aY
 obtain⟨li,J⟩:=am5 g1 (dH [116,111]::dH o.peer::(vZ o.dT++cy [59]::r))
 obtain⟨mA,aa⟩:=ap5 g2 g3 r
 refine⟨max li (max mA ((iS o.eK).length+1)),fun n a6=> ?_⟩
 simp only[uD,List.tail_cons,List.append_assoc,List.cons_append,List.nil_append,nl]
 rw[Ox bC (by rw[kW]; decide) (by omega),okB,mC,okB,J n (by omega),okB,uo,okB,qD bA,okB,aa n (by omega),okB,mC,okB]
theorem an1 {h:cd}(aY:jZ h=true) (r:bH): ∃cD,∀n,cD≤n→nk 0 n ((th h).tail++r)= .ok h r:=by
 obtain⟨g1,_⟩:=yI aY
 simp only[jZ,Bool.and_eq_true]at aY
 obtain⟨bC,bA,_,cO,_⟩:=aY
 obtain⟨li,J⟩:=xg (vW _) h.body r (Nat.le_refl _) g1
 refine⟨max li (max (h.ps.length+1) ((iS h.eK).length+1)),fun n a6=> ?_⟩
 simp only[th,List.tail_cons,List.append_assoc,List.cons_append,List.nil_append,nk]
 rw[Ox bC (by rw[kW]; decide) (by omega),okB,mC,okB,ao1 cO (by omega),okB,uo,okB,qD bA,okB,wS J (by omega),okB]
theorem Fe {z:Int}(aw: -1000000<z) (J:z<1000000) (r:bH):mD 0 (nr z++r)= .ok z r:=by
 unfold nr
 by_cases aB:z<0
 ·rw[if_pos aB]
  simp only[List.cons_append,List.nil_append,mD,kW,decide_true,if_true,List.tail_cons]
  rw[wX,okB]
  have:IntKind.i64.wrap (0-(kr (-z)).val)=z:=by
   show IntKind.i64.wrap (0- -z)=z
   rw[IntKind.wrap_i64]
   omega
  rw[this]
 ·rw[if_neg aB]
  simp only[List.cons_append,List.nil_append,mD,E5]
  rw[if_neg (by decide),wX,okB]
  rfl
theorem ah1 (z:Int) (r:bH):qN 3 (nr z++r)=false:=by
 unfold nr
 split<;>rfl
theorem ap2 {v:cb}(aY:iN v=true) (r:bH):qW 0 ((q4 v).tail++r)= .ok v r:=by
 obtain⟨aw,J,aa,au,bn,aC,ai⟩:=Lx aY
 have wO:r7 0 (tr v.ik v.n v.s++cy [59]::r)= .ok (v.ik,v.n,v.s) (cy [59]::r):=by
  rcases ai with ⟨k,a,b,c⟩|⟨k,a,b⟩
  ·have e:tr v.ik v.n v.s=nr v.n:=if_neg (by omega)
   rw[e,r7,if_neg (by rw[ah1]; decide),Fe a b,okB,k,c]
  ·have e:tr v.ik v.n v.s=[p6 v.s]:=if_pos k
   rw[e,r7,List.cons_append,List.nil_append,if_pos (by rfl),Oh,okB,k,a]
   rfl
 have ab9:r8 0 (dH (if v.hV=2 then[116,101,120,116] else[105,110,116])::(nr v.cz++cy [46,46]::(nr v.ai++cy [61]::(tr v.ik v.n v.s++cy [59]::r))))= .ok (v.hV,v.cz,v.ai) (cy [61]::(tr v.ik v.n v.s++cy [59]::r)):=by
  unfold r8
  rcases aC with k|⟨k,a,b⟩
  ·rw[if_neg (c:=v.hV=2) (by omega),ka,if_neg (by decide),uo,okB,Fe J aa,okB,mC,okB,Fe au bn,okB,k]
  ·have ar:nr v.cz=[kr v.cz]:=if_neg (by omega)
   have ax:nr v.ai=[kr v.ai]:=if_neg (by omega)
   rw[if_pos (c:=v.hV=2) k,ka,if_pos (by decide),ar,ax]
   simp only[List.tail_cons,List.cons_append,List.nil_append]
   rw[wX,okB,mC,okB,wX,okB,k]
   rfl
 simp only[q4,List.tail_cons,List.append_assoc,List.cons_append,List.nil_append,qW]
 rw[qD aw,okB,mC,okB,ab9,okB,mC,okB,wO,okB,mC,okB]
theorem OQ: ∀(ay:List cb),ay.all iN=true→∀(n m:Nat) (acc:List cb) (r:bH),eQ [118,97,114] r=false→ay.length+1≤m→lp 0 n m acc ((ay.map q4).flatten++r)= .ok (acc++ay) r
 |[],_,n,m,acc,r,ag,hm=>by
  obtain⟨m,rfl⟩: ∃k,m=k+1:=⟨m-1,by omega⟩
  simp only[List.map_nil,List.flatten_nil,List.nil_append,List.append_nil,lp]
  exact if_neg (by rw[ag]; decide)
 |v::ay,aY,n,m,acc,r,ag,hm=>by
  obtain⟨m,rfl⟩: ∃k,m=k+1:=⟨m-1,by omega⟩
  simp only[List.length_cons]at hm
  simp only[List.all_cons,Bool.and_eq_true]at aY
  have e:q4 v=dH [118,97,114]::(q4 v).tail:=rfl
  simp only[List.map_cons,List.flatten_cons,List.append_assoc,lp]
  rw[e]
  simp only[List.cons_append,ka,decide_true,if_true,List.tail_cons]
  rw[ap2 aY.1,okB,OQ ay aY.2 n m _ r ag (by omega),List.append_assoc]
  rfl
inductive hJ where
 |h (x:cd)
 |o (x:ca)
def hJ.uC:hJ→bH
 | .h x=>th x
 | .o x=>uD x
def hJ.xI:hJ→Bool
 | .h x=>jZ x
 | .o x=>j6 x
def na:List hJ→List cd
 |[]=>[]
 | .h x::l=>x::na l
 | .o _::l=>na l
def nq:List hJ→List ca
 |[]=>[]
 | .h _::l=>nq l
 | .o x::l=>x::nq l
theorem E7: ∀(l:List hJ),l.all hJ.xI=true→∀(ap:List cd) (os:List ca) (r:bH),∃cD,∀n m,cD≤n→l.length+1≤m→ln 0 n m ap os ((l.map hJ.uC).flatten++cy [125]::r)= .ok (ap++na l,os++nq l) r
 |[],_,ap,os,r=>⟨0,fun n m _ hm=>by
  obtain⟨m,rfl⟩: ∃k,m=k+1:=⟨m-1,by omega⟩
  simp only[List.map_nil,List.flatten_nil,List.nil_append,na,nq,List.append_nil,ln,kW,decide_true,if_true,List.tail_cons]⟩
 | .h x::l,aY,ap,os,r=>by
  simp only[List.all_cons,Bool.and_eq_true,hJ.xI]at aY
  obtain⟨cD,aw⟩:=E7 l aY.2 (ap++[x]) os r
  obtain⟨li,J⟩:=an1 aY.1 ((l.map hJ.uC).flatten++cy [125]::r)
  refine⟨max cD li,fun n m a6 hm=> ?_⟩
  obtain⟨m,rfl⟩: ∃k,m=k+1:=⟨m-1,by omega⟩
  simp only[List.length_cons]at hm
  have e:th x=dH [111,110]::(th x).tail:=rfl
  simp only[List.map_cons,hJ.uC,List.flatten_cons,List.append_assoc,ln]
  rw[e]
  simp only[List.cons_append,ka,List.tail_cons]
  rw[if_neg (by decide),if_pos (by decide),J n (by omega),okB,aw n m (by omega) (by omega)]
  simp only[na,nq,List.append_assoc,List.cons_append,List.nil_append]
 | .o x::l,aY,ap,os,r=>by
  simp only[List.all_cons,Bool.and_eq_true,hJ.xI]at aY
  obtain⟨cD,aw⟩:=E7 l aY.2 ap (os++[x]) r
  obtain⟨li,J⟩:=an8 aY.1 ((l.map hJ.uC).flatten++cy [125]::r)
  refine⟨max cD li,fun n m a6 hm=> ?_⟩
  obtain⟨m,rfl⟩: ∃k,m=k+1:=⟨m-1,by omega⟩
  simp only[List.length_cons]at hm
  have e:uD x=dH [111,102,102,101,114]::(uD x).tail:=rfl
  simp only[List.map_cons,hJ.uC,List.flatten_cons,List.append_assoc,ln]
  rw[e]
  simp only[List.cons_append,ka]
  rw[if_neg (by decide),if_neg (by decide),uo,okB,J n (by omega),okB,aw n m (by omega) (by omega)]
  simp only[na,nq,List.append_assoc,List.cons_append,List.nil_append]
theorem ak0 (l:List hJ) (r:bH):eQ [118,97,114] ((l.map hJ.uC).flatten++cy [125]::r)=false:=by
 cases l with
 |nil=>rfl
 |cons x l=>cases x<;>rfl
theorem ao8 {a b c:a7}(aP:db a=true) (hb:db b=true) (ah:db c=true){ay:List cb}(af:ay.all iN=true){l:List hJ}(aH:l.all hJ.xI=true): ∃n,lo 0 n (Ch a b c++((ay.map q4).flatten++((l.map hJ.uC).flatten++[cy [125]])))= .ok ⟨a,b,c,ay,na l,nq l⟩ []:=by
 obtain⟨cD,aw⟩:=E7 l aH [] [] []
 refine⟨max cD (max (ay.length+1) (l.length+1)),?_⟩
 simp only[Ch,List.cons_append,List.nil_append,lo]
 rw[uo,okB,qD aP,okB,uo,okB,qD hb,okB,uo,okB,qD ah,okB,mC,okB,OQ ay af _ _ [] _ (ak0 l []) (by omega),okB,aw _ _ (by omega) (by omega),okB]
 rfl
end Go.bc
namespace Go.bc.T.N
open Go Go.bc Go.Proofs Go.RowKit
set_option maxRecDepth 100000
attribute [local irreducible] Go.bc.aj Go.bc.ae Go.bc.bz
section
attribute [local go_sem] ad.ct ac.ct ad.b9 ac.b9 cj eN
theorem OR (z:Int):Pure Tryz.prog 139 [.int .u8 z] (.bool (xr z)):=by
 refine cF bN Tryz.func139 Uq rfl rfl ?_
 unfold Jh PR
 simp(disch:=omega)only[go_sem,simprocAttr]
 (repeat' first|refine D.S ?_|refine D.cN true true ?_|refine ae.nil ?_|refine aj.b6 ?_|refine D.W ?_|refine D.Z ?_|refine D.G ?_ ?_|refine D.X ‹_› ?_|refine D.eh ‹_› ?_|refine D.ei ‹_› ?_|intro h|refine D.C ?_ ?_)
 all_goals (refine D.R ?_)
 all_goals (refine⟨_,rfl,.av ?_ rfl,trivial,trivial⟩; simp_all [xr,I.av]<;>(try omega))
theorem au2 (z:Int):Pure Tryz.prog 141 [.int .u8 z] (.bool (vc z)):=by
 refine cF bN Tryz.func141 Ut rfl rfl ?_
 unfold Jj PU
 simp(disch:=omega)only[go_sem,simprocAttr]
 (repeat' first|refine D.S ?_|refine D.cN true true ?_|refine ae.nil ?_|refine aj.b6 ?_|refine D.W ?_|refine D.Z ?_|refine D.G ?_ ?_|refine D.X ‹_› ?_|refine D.eh ‹_› ?_|refine D.ei ‹_› ?_|intro h|refine D.C ?_ ?_)
 all_goals (refine D.R ?_)
 all_goals (refine⟨_,rfl,.av ?_ rfl,trivial,trivial⟩; simp_all [vc,I.av]<;>(try omega))
theorem au1 (z:Int):Pure Tryz.prog 140 [.int .u8 z] (.bool (uu z)):=by
 refine cF bN Tryz.func140 Us rfl rfl ?_
 unfold Ji PT
 simp(disch:=omega)only[go_sem,simprocAttr]
 refine ao ?_
 refine D.P (OR z) ?_
 (repeat' first|refine D.S ?_|refine D.cN true true ?_|refine ae.nil ?_|refine aj.b6 ?_|refine D.W ?_|refine D.Z ?_|refine D.G ?_ ?_|refine D.X ‹_› ?_|refine D.eh ‹_› ?_|refine D.ei ‹_› ?_|intro h|refine D.C ?_ ?_)
 ·refine D.r ?_
  refine⟨_,rfl,.av ?_ rfl,trivial,trivial⟩
  simp_all [uu,I.av]
 refine D.P (au2 z) ?_
 (repeat' first|refine D.S ?_|refine D.cN true true ?_|refine ae.nil ?_|refine aj.b6 ?_|refine D.W ?_|refine D.Z ?_|refine D.G ?_ ?_|refine D.X ‹_› ?_|refine D.eh ‹_› ?_|refine D.ei ‹_› ?_|intro h|refine D.C ?_ ?_)
 all_goals (refine D.R ?_)
 all_goals (refine⟨_,rfl,.av ?_ rfl,trivial,trivial⟩; simp_all [uu,I.av]<;>(try omega))
theorem at6 (l:List a7) (s:a7) (aH:l.length≤1000000000):Pure Tryz.prog 133 [.ay 1 (l.map cj),.str s] (.bool (l.contains s)):=by
 refine cF bN Tryz.func133 Uk (by simp only[b3,I.flat,eN,Bool.and_self]) rfl ?_
 unfold Jb PL
 simp(disch:=omega)only[go_sem,simprocAttr]
 refine ao ?_
 refine aj.dd (X:=Nat) 0 (fun i=>[(0,.ay 1 (l.map cj)),(1,.str s),(5,.int .i64 (i:Int))]) (fun _=>[]) (fun _=>[]) (fun i=>i≤l.length∧(l.drop i).contains s=l.contains s) (fun i=>l.length-i) ⟨Nat.zero_le _,rfl⟩ ⟨rfl,rfl,rfl,trivial⟩ trivial trivial ?_
 rintro i ⟨ai,aB⟩
 try simp only at ai aB ⊢
 cases af:l[i]? with
 |some v=>
  have cK:=(List.getElem?_eq_some_iff.1 af).1
  have d1:(i:Int)<((l.map cj).length:Int):=by rw[List.length_map]; omega
  rw[iM af]at aB
  by_cases ab:v=s
  ·simp only[List.contains_cons,ab,beq_self_eq_true,Bool.true_or]at aB
   (have al:=d1;have z2:=ab;refine e8 ?_;clear al z2)
   refine D.r ?_
   exact⟨_,rfl,.av (by rw[←aB]; rfl) rfl,trivial,trivial⟩
  ·have hQ:(s==v)=false:=by simpa using fun e:s=v=>ab e.symm
   simp only[List.contains_cons,hQ,Bool.false_or]at aB
   (have al:=d1;have z2:=ab;refine e8 ?_;clear al z2)
   refine aj.dK (i+1) ⟨by omega,aB⟩ ⟨rfl,rfl,by simp only[Int.natCast_add]; rfl,trivial⟩ trivial trivial rfl rfl (by show l.length-(i+1)<l.length-i; omega)
 |none=>
  have cM:=List.getElem?_eq_none_iff.1 af
  have bE:i=l.length:=by omega
  subst bE
  have d1: ¬(l.length:Int)<((l.map cj).length:Int):=by rw[List.length_map]; omega
  rw[List.drop_length]at aB
  (have al:=d1;refine bQ ?_;clear al)
  refine D.r ?_
  exact⟨_,rfl,.av (by rw[←aB]; rfl) rfl,trivial,trivial⟩
theorem ar6:Pure Tryz.prog 134 [] (.ay 1 (r2.map cj)):=by
 refine cF bN Tryz.func134 Un rfl rfl ?_
 unfold Jg PO
 simp(disch:=omega)only[go_sem,simprocAttr]
 refine ao ?_
 exact D.rx
theorem ar3 (s:a7):Pure Tryz.prog 132 [.str s] (.bool (mx s)):=by
 cases s with
 |nil=>
  refine cF bN Tryz.func132 HJ rfl rfl ?_
  unfold DL FK
  simp(disch:=omega)only[go_sem,simprocAttr]
  refine ao ?_
  exact D.rx
 |cons c s=>
 have bW:mx (c::s)=(decide ((c::s).length≤16)&&(l1 c&&(c::s).all iO)):=rfl
 have aw:(c::s)[0]? =some c:=rfl
 have dw: ¬(c::s)=[]:=by simp
 have yz:Pure Tryz.prog 139 [.int .u8 (c.toNat:Int)] (.bool (l1 c)):=OR _
 generalize c::s=S at bW aw dw
 rw[bW]
 refine cF bN Tryz.func132 HJ rfl rfl ?_
 unfold DL FK
 simp(disch:=omega)only[go_sem,simprocAttr]
 (have al:=dw;refine bQ ?_;clear al)
 refine D.P (yz) ?_
 cases ek:l1 c
 ·refine ao ?_
  refine D.r ?_
  exact⟨_,rfl,.av (by simp [I.av]) rfl,trivial,trivial⟩
 by_cases aH:S.length≤16
 rotate_left
 ·have d1:(16:Int)<(S.length:Int):=by omega
  (have al:=d1;refine bQ ?_;clear al)
  refine D.r ?_
  exact⟨_,rfl,.av (by simp [I.av,aH]) rfl,trivial,trivial⟩
 have d1: ¬(16:Int)<(S.length:Int):=by omega
 simp only[decide_eq_true aH,Bool.true_and]
 (have al:=d1;refine bQ ?_;clear al)
 refine aj.dd (X:=Nat) 0 (fun i=>[(0,.str S),(3,.int .i64 (i:Int))]) (fun _=>[]) (fun _=>[]) (fun i=>i≤S.length∧(S.drop i).all iO=S.all iO) (fun i=>S.length-i) ⟨Nat.zero_le _,rfl⟩ ⟨rfl,rfl,trivial⟩ trivial trivial ?_
 rintro i ⟨ai,aB⟩
 try simp only at ai aB ⊢
 cases af:S[i]? with
 |some v=>
  have cK:=(List.getElem?_eq_some_iff.1 af).1
  have d2:(i:Int)<(S.length:Int):=by omega
  have AJ:Pure Tryz.prog 140 [.int .u8 (v.toNat:Int)] (.bool (iO v)):=au1 _
  rw[iM af]at aB
  simp only[List.all_cons]at aB
  cases w8:iO v
  ·rw[w8]at aB AJ
   (have al:=d2;refine bQ ?_;clear al)
   refine D.P (AJ) ?_
   refine ao ?_
   refine D.r ?_
   exact⟨_,rfl,.av (by rw[←aB]; rfl) rfl,trivial,trivial⟩
  ·rw[w8]at aB AJ
   (have al:=d2;refine bQ ?_;clear al)
   refine D.P (AJ) ?_
   refine ao ?_
   refine aj.dK (i+1) ⟨by omega,by simpa using aB⟩ ⟨rfl,by simp only[Int.natCast_add]; rfl,trivial⟩ trivial trivial rfl rfl (by show S.length-(i+1)<S.length-i; omega)
 |none=>
  have cM:=List.getElem?_eq_none_iff.1 af
  have bE:i=S.length:=by omega
  subst bE
  have d2: ¬(S.length:Int)<(S.length:Int):=by omega
  rw[List.drop_length]at aB
  (have al:=d2;refine bQ ?_;clear al)
  refine D.r ?_
  exact⟨_,rfl,.av (by rw[←aB]; rfl) rfl,trivial,trivial⟩
theorem sg (s:a7):Pure Tryz.prog 58 [.str s] (.bool (db s)):=by
 have ar:=ar3 s
 have ax:=at6 r2 s (by decide)
 have fq:=ar6
 unfold db
 generalize mx s=eB at*
 generalize r2.contains s=dU at*
 refine cF bN Tryz.func58 Vz rfl rfl ?_
 unfold Kp QY
 simp(disch:=omega)only[go_sem,simprocAttr]
 refine ao ?_
 refine D.P (ar) ?_
 cases eB
 ·refine ao ?_
  exact D.rx
 refine ao ?_
 refine D.P (fq) ?_
 refine ao ?_
 refine D.P (ax) ?_
 refine ao ?_
 exact D.rx
theorem at4 (s:a7):Pure Tryz.prog 136 [.str s] (.bool (db s)):=by
 refine cF bN Tryz.func136 Up rfl rfl ?_
 unfold JM PQ
 simp(disch:=omega)only[go_sem,simprocAttr]
 refine ao ?_
 refine D.P (sg s) ?_
 refine ao ?_
 exact D.rx
theorem aE1: ∀ {u:a7}(v:a7),46∉u→iS (u++v)=(match iS v with
  |w::ws=>(u++w)::ws
  |[]=>[])
 |[],v,_=>by
  have:=zw v
  cases ap:iS v with
  |nil=>exact absurd ap this
  |cons w ws=>simp [ap]
 |c::u,v,h=>by
  simp only[List.mem_cons,not_or]at h
  have cv:=aE1 (u:=u) v h.2
  rw[List.cons_append,iS,if_neg (fun e=>h.1 e.symm),cv]
  have:=zw v
  cases ap:iS v with
  |nil=>exact absurd ap this
  |cons w ws=>rfl
theorem O9 (s:a7) (ap:s.length≤1000000000000000):Pure Tryz.prog 60 [.str s] (.bool (kR s)):=by
 obtain⟨R,an⟩: ∃R,R=(iS s).all db:=⟨_,rfl⟩
 have nE:kR s=(decide (s.length≤50)&&R):=by rw[kR,Ga,an]
 rw[nE]
 refine cF bN Tryz.func60 DA rfl rfl ?_
 unfold KN Q0
 simp(disch:=omega)only[go_sem,simprocAttr]
 refine ao ?_
 refine aj.dd (X:=Nat×Nat) (0,0) (fun x=>[(0,.str s),(4,.int .i64 (x.1:Int)),(3,.int .i64 (x.2:Int))]) (fun _=>[]) (fun _=>[]) (fun x=>(x.1≤s.length∧x.2≤x.1∧46∉(s.take x.1).drop x.2∧R=(iS (s.drop x.2)).all db)∨(x.1=s.length+1∧R=true)) (fun x=>s.length+1-x.1) (.inl ⟨Nat.zero_le _,Nat.le_refl _,by simp,by simpa using an⟩) ⟨rfl,rfl,rfl,trivial⟩ trivial trivial ?_
 rintro⟨i,f⟩ h
 simp only at h ⊢
 rcases h with ⟨ai,aW,a6,aB⟩|⟨rfl,aB⟩
 rotate_left
 ·have d1: ¬((s.length:Int)+1≤(s.length:Int)):=by omega
  (repeat' first|(apply ae.s rfl;(·simp(disch:=omega)only[go_sem,simprocAttr,Int.natCast_add,d1]<;>with_reducible rfl))|(apply aj.s true true;(·simp(disch:=omega)only[go_sem,simprocAttr,Int.natCast_add,d1]<;>with_reducible rfl))|apply ae.nil|(refine aj.b6 ?_)|(apply ae.eX;(·simp(disch:=omega)only[go_sem,simprocAttr,Int.natCast_add,d1]<;>with_reducible rfl))|(apply ae.eY;(·rfl);(·simp(disch:=omega)only[go_sem,simprocAttr,Int.natCast_add,d1]<;>with_reducible rfl))|(apply ae.gs;(·simp(disch:=omega)only[go_sem,simprocAttr,Int.natCast_add,d1]<;>with_reducible rfl))|((first|apply ae.e3|apply ae.e4|apply ae.e5);(·simp(disch:=omega)only[go_sem,simprocAttr,Int.natCast_add,d1]<;>with_reducible rfl);(·simp(disch:=omega)only[go_sem,simprocAttr,Int.natCast_add,d1]<;>with_reducible rfl);(·assumption);(·omega))|intro h)
  refine D.r ?_
  refine⟨_,rfl,.av ?_ rfl,trivial,trivial⟩
  rw[aB]
  simp only[I.av,Bool.and_true,I.bool.injEq]
  exact decide_eq_decide.2 (by omega)
 have d1:(i:Int)≤(s.length:Int):=by omega
 have gi:s.drop f=(s.take i).drop f++s.drop i:=by
  conv=>lhs; rw[←List.take_append_drop i s]
  rw[List.drop_append_of_le_length (by rw[List.length_take]; omega)]
 obtain⟨u,hu⟩: ∃u,u=(s.take i).drop f:=⟨_,rfl⟩
 rw[←hu]at a6 gi
 have Lg:=at4 u
 by_cases he:i=s.length
 ·subst he
  have d1:(s.length:Int)≤(s.length:Int):=by omega
  have El:s.drop s.length=[]:=List.drop_eq_nil_of_le (by omega)
  rw[El,List.append_nil]at gi
  rw[gi,F9 a6]at aB
  simp only[List.all_cons,List.all_nil,Bool.and_true]at aB
  (have al:=d1;refine bQ ?_;clear al)
  (apply ae.uM (f) (s.length);(·simp(disch:=omega)only[go_sem,simprocAttr]<;>with_reducible rfl);(·simp(disch:=omega)only[go_sem,simprocAttr]<;>with_reducible rfl);(·simp(disch:=omega)only[go_sem,simprocAttr]<;>with_reducible rfl);(·omega);(·omega);(·omega);(·(try simp only[List.length_map]);omega))
  rw[←hu]
  refine ao ?_
  refine D.P (Lg) ?_
  rw[←aB]
  cases R
  ·refine ao ?_
   refine D.r ?_
   exact⟨_,rfl,.av (by simp [I.av]) rfl,trivial,trivial⟩
  ·refine ao ?_
   refine aj.dK (s.length+1,s.length+1) (by first|exact .inr ⟨rfl,rfl⟩|exact .inr rfl) ⟨rfl,by simp only[Int.natCast_add]; rfl,by simp only[Int.natCast_add]; rfl,trivial⟩ trivial trivial rfl rfl (by show s.length+1-(s.length+1)<s.length+1-s.length; omega)
 have cK:i<s.length:=by omega
 have d2: ¬(i:Int)=(s.length:Int):=by omega
 obtain⟨c,ah⟩: ∃c,s[i]? =some c:=⟨_,List.getElem?_eq_getElem cK⟩
 have YX:=iM ah
 rw[YX]at gi
 have kM:(s.take (i+1)).drop f=u++[c]:=by
  rw[List.take_add_one,ah,List.drop_append_of_le_length (by rw[List.length_take]; omega),←hu]
  rfl
 by_cases Lz:c.toNat=46
 ·have YZ:c=46:=UInt8.toNat_inj.1 Lz
  subst YZ
  rw[gi,F8 _ a6]at aB
  simp only[List.all_cons]at aB
  (have al:=d1;have z2:=d2;refine e8 ?_;clear al z2)
  (apply ae.uM (f) (i);(·simp(disch:=omega)only[go_sem,simprocAttr]<;>with_reducible rfl);(·simp(disch:=omega)only[go_sem,simprocAttr]<;>with_reducible rfl);(·simp(disch:=omega)only[go_sem,simprocAttr]<;>with_reducible rfl);(·omega);(·omega);(·omega);(·(try simp only[List.length_map]);omega))
  rw[←hu]
  refine ao ?_
  refine D.P (Lg) ?_
  cases hw:db u
  ·rw[hw]at aB
   refine ao ?_
   refine D.r ?_
   exact⟨_,rfl,.av (by rw[aB]; simp [I.av]) rfl,trivial,trivial⟩
  ·rw[hw]at aB
   refine ao ?_
   refine aj.dK (i+1,i+1) (.inl ⟨by omega,Nat.le_refl _,by simp,by simpa using aB⟩) ⟨rfl,by simp only[Int.natCast_add]; rfl,by simp only[Int.natCast_add]; rfl,trivial⟩ trivial trivial rfl rfl (by show s.length+1-(i+1)<s.length+1-i; omega)
 ·have d3: ¬(c.toNat:Int)=46:=by omega
  (have al:=d1;have z2:=d2;have z3:=d3;refine ji ?_;clear al z2 z3)
  refine aj.dK (i+1,f) (.inl ⟨by omega,by omega,?_,aB⟩) ⟨rfl,by simp only[Int.natCast_add]; rfl,rfl,trivial⟩ trivial trivial rfl rfl (by show s.length+1-(i+1)<s.length+1-i; omega)
  simp only[kM,List.mem_append,List.mem_singleton,not_or]
  exact⟨a6,fun e=>Lz (by rw[←e]; rfl)⟩
theorem au0 (s:a7) (ap:s.length≤1000000000):Pure Tryz.prog 185 [.str s] (.bool (s.all eo)):=by
 refine cF bN Tryz.func185 U9 rfl rfl ?_
 unfold JZ QA
 simp(disch:=omega)only[go_sem,simprocAttr]
 refine ao ?_
 refine aj.dd (X:=Nat) 0 (fun i=>[(0,.str s),(3,.int .i64 (i:Int))]) (fun _=>[]) (fun _=>[]) (fun i=>i≤s.length∧(s.drop i).all eo=s.all eo) (fun i=>s.length-i) ⟨Nat.zero_le _,rfl⟩ ⟨rfl,rfl,trivial⟩ trivial trivial ?_
 rintro i ⟨ai,aB⟩
 try simp only at ai aB ⊢
 cases af:s[i]? with
 |some v=>
  have cK:=(List.getElem?_eq_some_iff.1 af).1
  have d1:(i:Int)<(s.length:Int):=by omega
  rw[iM af]at aB
  simp only[List.all_cons]at aB
  by_cases J:v.toNat<32
  ·have d2:(v.toNat:Int)<32:=by omega
   have aq:eo v=false:=by simp [eo]; omega
   rw[aq]at aB
   (have al:=d1;have z2:=d2;refine e8 ?_;clear al z2)
   refine D.r ?_
   exact⟨_,rfl,.av (by rw[←aB]; rfl) rfl,trivial,trivial⟩
  have d2: ¬(v.toNat:Int)<32:=by omega
  by_cases aa:126<v.toNat
  ·have d3:(126:Int)<(v.toNat:Int):=by omega
   have aq:eo v=false:=by simp [eo]; omega
   rw[aq]at aB
   (have al:=d1;have z2:=d2;have z3:=d3;refine ji ?_;clear al z2 z3)
   refine D.r ?_
   exact⟨_,rfl,.av (by rw[←aB]; rfl) rfl,trivial,trivial⟩
  ·have d3: ¬(126:Int)<(v.toNat:Int):=by omega
   have aq:eo v=true:=by simp [eo]; omega
   rw[aq,Bool.true_and]at aB
   (have al:=d1;have z2:=d2;have z3:=d3;refine ji ?_;clear al z2 z3)
   refine aj.dK (i+1) ⟨by omega,aB⟩ ⟨rfl,by simp only[Int.natCast_add]; rfl,trivial⟩ trivial trivial rfl rfl (by show s.length-(i+1)<s.length-i; omega)
 |none=>
  have cM:=List.getElem?_eq_none_iff.1 af
  have bE:i=s.length:=by omega
  subst bE
  have d1: ¬(s.length:Int)<(s.length:Int):=by omega
  rw[List.drop_length]at aB
  (have al:=d1;refine bQ ?_;clear al)
  refine D.r ?_
  exact⟨_,rfl,.av (by rw[←aB]; rfl) rfl,trivial,trivial⟩
def so (k n:Int) (s:a7):Bool:=if k=1 then decide (-1000≤n)&&(decide (n≤1000)&&decide (s=[])) else if k=2 then decide (n=0)&&lM s else false
theorem O2 (k n:Int) (s:a7):Pure Tryz.prog 135 [.agg [.int .i64 k,.int .i64 n,.str s]] (.bool (so k n s)):=by
 have e:s.length≤40→Pure Tryz.prog 185 [.str s] (.bool (s.all eo)):=fun h=>au0 s (by omega)
 unfold so lM
 generalize s.all eo=b at*
 refine cF bN Tryz.func135 Uo rfl rfl ?_
 unfold JD PP
 simp(disch:=omega)only[go_sem,simprocAttr]
 by_cases bC:k=1
 ·subst bC
  by_cases J: -1000≤n
  rotate_left
  ·(have al:=J;refine bQ ?_;clear al)
   refine D.r ?_
   exact⟨_,rfl,.av (by simp [I.av,J]) rfl,trivial,trivial⟩
  by_cases aa:n≤1000
  rotate_left
  ·(have al:=J;have z2:=aa;refine e8 ?_;clear al z2)
   refine D.r ?_
   exact⟨_,rfl,.av (by simp [I.av,aa]) rfl,trivial,trivial⟩
  (have al:=J;have z2:=aa;refine e8 ?_;clear al z2)
  refine D.r ?_
  exact⟨_,rfl,.av (by simp [I.av,J,aa]) rfl,trivial,trivial⟩
 by_cases bA:k=2
 ·subst bA
  by_cases J:n=0
  rotate_left
  ·(have al:=J;refine bQ ?_;clear al)
   refine D.r ?_
   exact⟨_,rfl,.av (by simp [I.av,J]) rfl,trivial,trivial⟩
  by_cases aa:s.length≤40
  rotate_left
  ·have d2: ¬(s.length:Int)≤40:=by omega
   (have al:=J;have z2:=d2;refine e8 ?_;clear al z2)
   refine D.r ?_
   exact⟨_,rfl,.av (by simp [I.av,aa]) rfl,trivial,trivial⟩
  have d2:(s.length:Int)≤40:=by omega
  (have al:=J;have z2:=d2;refine e8 ?_;clear al z2)
  refine D.P (e aa) ?_
  refine ao ?_
  refine D.r ?_
  exact⟨_,rfl,.av (by simp [I.av,J,aa]) rfl,trivial,trivial⟩
 (have al:=bC;have z2:=bA;refine e8 ?_;clear al z2)
 refine D.r ?_
 exact⟨_,rfl,.av (by simp [I.av,bC,bA]) rfl,trivial,trivial⟩
end
section
attribute [local go_sem] ad.ct ad.b9 ad.de ac.ct ac.b9 ac.de cj eN fZ gJ dp of_flat
theorem Xq:(List.range 10).all (fun d=>(Utf8.encode (48+(d:Int))).data.toList==[UInt8.ofNat (48+d)])=true:=by kernel_rfl
theorem Xs {d:Nat}(h:d<10):(Utf8.encode (48+(d:Int))).data.toList=[UInt8.ofNat (48+d)]:=by
 have:=List.all_eq_true.1 Xq d (List.mem_range.2 h)
 simpa only[beq_iff_eq] using this
theorem ag7 {n:Nat}(h:n<10):Lib.itoa (n:Int)=[UInt8.ofNat (48+n)]:=by
 unfold Lib.itoa
 rw[if_neg (by omega),Int.toNat_natCast,wK h]
theorem ac8 {n:Nat}(h: ¬n<10):Lib.itoa (n:Int)=Lib.itoa ((n/10:Nat):Int)++[UInt8.ofNat (48+n%10)]:=by
 unfold Lib.itoa
 rw[if_neg (by omega),if_neg (by omega),Int.toNat_natCast,Int.toNat_natCast,yw h]
theorem MO {n:Nat}(h:1≤n):Lib.itoa (-(n:Int))=45::Lib.decDigits n:=by
 unfold Lib.itoa
 rw[if_pos (by omega)]
 simp
theorem aJ5 (m:Nat):(-(m:Int)).tdiv 10= -((m/10:Nat):Int):=by rw[Int.neg_tdiv]; rfl
theorem ma (m:Nat):(-(m:Int)).tmod 10= -((m%10:Nat):Int):=by rw[Int.neg_tmod]; rfl
theorem aJ6 (m:Nat):(m:Int).tdiv 10=((m/10:Nat):Int):=rfl
theorem aJ7 (m:Nat):(m:Int).tmod 10=((m%10:Nat):Int):=rfl
theorem aM4 {d:Int}(aw:0≤d) (J:d<10):IntKind.i32.wrap (48+d)=48+d:=by
 simp only[IntKind.wrap,IntKind.bits,IntKind.signed]
 simp
 omega
attribute [local go_sem] aM4 Xs Int.sub_neg aJ5 ma aJ6 aJ7
theorem aw6: ∀n:Nat,n≤1000000000→Pure Tryz.prog 75 [.int .i64 (n:Int)] (.str (Lib.itoa (n:Int))):=by
 intro n
 induction n using Nat.strongRecOn with
 |ind n cv=>
 intro a6
 have J: ¬(n:Int)< -9:=by omega
 have aa: ¬(n:Int)<0:=by omega
 refine cF bN Tryz.func75 H4 rfl rfl ?_
 unfold DU FT
 simp(disch:=omega)only[go_sem,simprocAttr]
 by_cases rM:n<10
 ·have au:(n:Int)<10:=by omega
  rw[ag7 rM]
  (have al:=J;have z2:=aa;have z3:=au;refine ji ?_;clear al z2 z3)
  exact D.rx
 ·have au: ¬(n:Int)<10:=by omega
  have e:=cv (n/10) (by omega) (by omega)
  have aH:=Lib.itoa_length_le ((n/10:Nat):Int) (by omega) (by omega)
  rw[ac8 rM]
  generalize Lib.itoa ((n/10:Nat):Int)=s at*
  (have al:=J;have z2:=aa;have z3:=au;refine ji ?_;clear al z2 z3)
  refine D.P (e) ?_
  refine ao ?_
  refine D.bR ?_
  refine ao ?_
  exact D.rx
theorem aw1: ∀n:Nat,1≤n→n≤1000000000→Pure Tryz.prog 75 [.int .i64 (-(n:Int))] (.str (Lib.itoa (-(n:Int)))):=by
 intro n
 induction n using Nat.strongRecOn with
 |ind n cv=>
 intro hp a6
 rw[MO hp]
 refine cF bN Tryz.func75 H4 rfl rfl ?_
 unfold DU FT
 simp(disch:=omega)only[go_sem,simprocAttr]
 by_cases rM:n<10
 ·have J: ¬ -(n:Int)< -9:=by omega
  have aa: -(n:Int)<0:=by omega
  rw[wK rM]
  (have al:=J;have z2:=aa;refine e8 ?_;clear al z2)
  refine D.bR ?_
  refine ao ?_
  exact D.rx
 ·have J: -(n:Int)< -9:=by omega
  have e:=cv (n/10) (by omega) (by omega) (by omega)
  have aH:=Lib.itoa_length_le (-((n/10:Nat):Int)) (by omega) (by omega)
  rw[MO (by omega)]at aH e
  rw[yw rM]
  generalize Lib.decDigits (n/10)=s at*
  (have al:=J;refine bQ ?_;clear al)
  refine D.P (e) ?_
  refine ao ?_
  simp only[List.length_cons]at aH
  refine D.bR ?_
  refine ao ?_
  exact D.rx
theorem zg (n:Int) (aw: -1000000000≤n) (J:n≤1000000000):Pure Tryz.prog 75 [.int .i64 n] (.str (Lib.itoa n)):=by
 by_cases h:0≤n
 ·obtain⟨m,rfl⟩:=Int.eq_ofNat_of_zero_le h
  exact aw6 m (by omega)
 ·obtain⟨m,hm⟩:=Int.eq_ofNat_of_zero_le (a:= -n) (by omega)
  have:n= -(m:Int):=by omega
  subst this
  exact aw1 m (by omega) (by omega)
theorem PJ (s:a7) (ap:s.length≤100000000):Pure Tryz.prog 76 [.str s] (.str (p4 s)):=by
 refine cF bN Tryz.func76 V8 rfl rfl ?_
 unfold KV Re
 simp(disch:=omega)only[go_sem,simprocAttr]
 refine ao ?_
 refine aj.dd (X:=Nat×a7) (0,[34]) (fun x=>[(0,.str s),(3,.str x.2),(4,.int .i64 (x.1:Int))]) (fun _=>[]) (fun _=>[]) (fun x=>x.1≤s.length∧x.2=[34]++iC (s.take x.1)) (fun x=>s.length-x.1) ⟨Nat.zero_le _,rfl⟩ ⟨rfl,rfl,rfl,trivial⟩ trivial trivial ?_
 rintro⟨i,o⟩ ⟨ai,aB⟩
 try simp only at ai aB ⊢
 have aH:o.length≤300000000:=by
  have:=xG (s.take i)
  rw[aB,List.length_append,List.length_cons,List.length_nil]
  rw[List.length_take]at this
  omega
 cases af:s[i]? with
 |some v=>
  have cK:=(List.getElem?_eq_some_iff.1 af).1
  have d1:(i:Int)<(s.length:Int):=by omega
  have kM:(s.take (i+1))=s.take i++[v]:=by rw[List.take_add_one,af]; rfl
  have pS:(s.take (i+1)).drop i=[v]:=by
   rw[kM,List.drop_append_of_le_length (by rw[List.length_take]; omega),List.drop_eq_nil_of_le (by rw[List.length_take]; omega)]
   rfl
  have bG:iC [v]=if v.toNat=34∨v.toNat=92 then[92,v] else[v]:=by simp only[iC,List.append_nil]
  have mv:[34]++iC (s.take (i+1))=o++iC [v]:=by rw[kM,FF,←List.append_assoc,aB]
  rw[bG]at mv
  by_cases J:v.toNat=34
  ·have d2:(v.toNat:Int)=34:=by omega
   rw[if_pos (.inl J)]at mv
   (have al:=d1;have z2:=d2;refine e8 ?_;clear al z2)
   refine D.bR ?_
   refine ao ?_
   (apply ae.uM (i) (i+1);(·simp(disch:=omega)only[go_sem,simprocAttr]<;>with_reducible rfl);(·simp(disch:=omega)only[go_sem,simprocAttr]<;>with_reducible rfl);(·simp(disch:=omega)only[go_sem,simprocAttr]<;>with_reducible rfl);(·omega);(·omega);(·omega);(·(try simp only[List.length_map]);omega))
   rw[pS]
   refine ao ?_
   refine D.bR ?_
   refine ao ?_
   refine aj.dK (i+1,o++[92]++[v]) ⟨by omega,by simpa using mv.symm⟩ ⟨rfl,rfl,by simp only[Int.natCast_add]; rfl,trivial⟩ trivial trivial rfl rfl (by show s.length-(i+1)<s.length-i; omega)
  have d2: ¬(v.toNat:Int)=34:=by omega
  by_cases aa:v.toNat=92
  ·have d3:(v.toNat:Int)=92:=by omega
   rw[if_pos (.inr aa)]at mv
   (have al:=d1;have z2:=d2;have z3:=d3;refine ji ?_;clear al z2 z3)
   refine D.bR ?_
   refine ao ?_
   (apply ae.uM (i) (i+1);(·simp(disch:=omega)only[go_sem,simprocAttr]<;>with_reducible rfl);(·simp(disch:=omega)only[go_sem,simprocAttr]<;>with_reducible rfl);(·simp(disch:=omega)only[go_sem,simprocAttr]<;>with_reducible rfl);(·omega);(·omega);(·omega);(·(try simp only[List.length_map]);omega))
   rw[pS]
   refine ao ?_
   refine D.bR ?_
   refine ao ?_
   refine aj.dK (i+1,o++[92]++[v]) ⟨by omega,by simpa using mv.symm⟩ ⟨rfl,rfl,by simp only[Int.natCast_add]; rfl,trivial⟩ trivial trivial rfl rfl (by show s.length-(i+1)<s.length-i; omega)
  ·have d3: ¬(v.toNat:Int)=92:=by omega
   rw[if_neg (by omega)]at mv
   (have al:=d1;have z2:=d2;have z3:=d3;refine ji ?_;clear al z2 z3)
   (apply ae.uM (i) (i+1);(·simp(disch:=omega)only[go_sem,simprocAttr]<;>with_reducible rfl);(·simp(disch:=omega)only[go_sem,simprocAttr]<;>with_reducible rfl);(·simp(disch:=omega)only[go_sem,simprocAttr]<;>with_reducible rfl);(·omega);(·omega);(·omega);(·(try simp only[List.length_map]);omega))
   rw[pS]
   refine ao ?_
   refine D.bR ?_
   refine ao ?_
   refine aj.dK (i+1,o++[v]) ⟨by omega,by simpa using mv.symm⟩ ⟨rfl,rfl,by simp only[Int.natCast_add]; rfl,trivial⟩ trivial trivial rfl rfl (by show s.length-(i+1)<s.length-i; omega)
 |none=>
  have cM:=List.getElem?_eq_none_iff.1 af
  have bE:i=s.length:=by omega
  subst bE
  have d1: ¬(s.length:Int)<(s.length:Int):=by omega
  rw[List.take_length]at aB
  (have al:=d1;refine bQ ?_;clear al)
  refine D.bR ?_
  refine ao ?_
  refine D.r ?_
  exact⟨_,rfl,.av (by rw[aB]; rfl) rfl,trivial,trivial⟩
end
section
attribute [local go_sem] ad.ct ad.b9 ad.de ac.ct ac.b9 ac.de cj eN fZ gJ dp of_flat
theorem s7: ∀(N:Nat),(∀x:ad,x.bI≤N→dB x=true→(cm x).length≤1000000000→Pure Tryz.prog 28 [.agg x.row] (.str (cm x)))∧(∀(x:ad) (k:Int),x.bI≤N→dB x=true→(fX x (cm x) k).length≤1000000000→Pure Tryz.prog 77 [.agg x.row,.int .i64 k] (.str (fX x (cm x) k)))
 |0=>⟨fun x h=>by cases x; simp only[ad.bI]at h; omega,fun x k h=>by cases x; simp only[ad.bI]at h; omega⟩
 |N+1=>by
  have key: ∀x:ad,x.bI≤N+1→dB x=true→(cm x).length≤1000000000→Pure Tryz.prog 28 [.agg x.row] (.str (cm x)):=by
   rintro⟨k,o,m,t,n,l⟩ bW aY ap
   simp only[ad.bI]at bW
   simp only[dB,Bool.and_eq_true]at aY
   obtain⟨bh,hq⟩:=aY
   simp only[cm,Cn]at ap ⊢
   have qL:=ap
   unfold A4 at ap ⊢
   refine cF bN Tryz.func28 Vg (by simp only[b3,I.flat,ad.de,Bool.and_self]) rfl ?_
   unfold J2 QG
   simp(disch:=omega)only[go_sem,simprocAttr]
   rcases Ec bh with ⟨rfl,aw,J,aa⟩|⟨rfl,aw,J⟩|⟨rfl,aw⟩|⟨rfl,aw⟩|⟨rfl,aw⟩|⟨rfl,aw⟩
   ·refine ao ?_
    refine D.P (zg n (by omega) (by omega)) ?_
    refine ao ?_
    exact D.rx
   ·refine ao ?_
    refine D.P (PJ t (by omega)) ?_
    refine ao ?_
    exact D.rx
   ·refine ao ?_
    exact D.rx
   ·match l,aw with
    |[x],_=>
    simp only[mY,Bool.and_true]at hq
    simp only[ad.bB]at bW
    have hY:([108,101,110,40]++cm x++[41]).length≤1000000000:=ap
    simp only[List.length_append,List.length_cons,List.length_nil]at hY
    have e:=(s7 N).1 x (by omega) hq (by omega)
    rcases x with ⟨eb,ef,ed,eg,ee,ec⟩
    simp(disch:=omega)only[go_sem,simprocAttr]at e
    refine ao ?_
    refine D.P (e) ?_
    refine D.bR ?_
    refine D.bR ?_
    refine ao ?_
    exact D.rx
   ·match l,aw with
    |[x],_=>
    simp only[mY,Bool.and_true]at hq
    simp only[ad.bB]at bW
    have hY:(o++fX x (cm x) 7).length≤1000000000:=ap
    simp only[List.length_append]at hY
    have e:=(s7 N).2 x 7 (by omega) hq (by omega)
    show aj Tryz.prog _ _ _ _ (tJ (.str (o++fX x (cm x) 7)) [] []) _ _
    generalize fX x (cm x) 7=iD at e hY ⊢
    clear ap qL
    rcases x with ⟨eb,ef,ed,eg,ee,ec⟩
    simp(disch:=omega)only[go_sem,simprocAttr]at e
    iterate 6 refine iT ?_
    repeat refine D.cN true true ?_
    refine aj.fs (anns:=[.str iD]) ?_
    refine bK ?_
    refine D.df (e) ?_
    refine D.bR ?_ (hb:=by simp only[maxLen]; omega)
    refine ao ?_
    exact D.rx
   ·match l,aw with
    |[x,y],_=>
    simp only[mY,Bool.and_true,Bool.and_eq_true]at hq
    simp only[ad.bB]at bW
    have hY:(fX x (cm x) (cV o)++[32]++o++[32]++fX y (cm y) (cV o+1)).length≤1000000000:=ap
    simp only[List.length_append,List.length_cons,List.length_nil]at hY
    have e:=(s7 N).2 x (cV o) (by omega) hq.1 (by omega)
    have ax:=(s7 N).2 y (cV o+1) (by omega) hq.2 (by omega)
    show aj Tryz.prog _ _ _ _ (tJ (.str (fX x (cm x) (cV o)++[32]++o++[32]++fX y (cm y) (cV o+1))) [] []) _ _
    generalize fX x (cm x) (cV o)=iD at e hY ⊢
    generalize fX y (cm y) (cV o+1)=Ge at ax hY ⊢
    have hp:=uG o
    have oR:=Fw o
    generalize cV o=gS at*
    clear ap qL
    rcases x with ⟨eb,ef,ed,eg,ee,ec⟩
    rcases y with ⟨sv,CK,x7,uU,x8,CJ⟩
    simp(disch:=omega)only[go_sem,simprocAttr]at e
    simp(disch:=omega)only[go_sem,simprocAttr]at ax
    iterate 7 refine iT ?_
    repeat refine D.cN true true ?_
    refine aj.b6 ?_
    refine bK ?_
    refine D.P (oR) ?_
    refine bK ?_
    repeat refine D.cN true true ?_
    refine aj.fs (anns:=[.str iD,.str Ge]) ?_
    refine bK ?_
    refine D.df (e) ?_
    refine D.bR ?_
    refine bK ?_
    refine D.bR ?_
    refine D.bR ?_
    refine bK ?_
    refine D.df (ax) ?_
    refine D.bR ?_
    refine ao ?_
    exact D.rx
  refine⟨key,fun x k bW aY ap=> ?_⟩
  have oR:=Fw x.op
  by_cases cq:x.kind=6
  ·by_cases aC:cV x.op<k
   ·have jG:fX x (cm x) k=[40]++cm x++[41]:=if_pos ⟨cq,aC⟩
    rw[jG]at ap ⊢
    simp only[List.length_append,List.length_cons,List.length_nil]at ap
    have e:=key x bW aY (by omega)
    generalize cm x=iD at*
    rcases x with ⟨eb,ef,ed,eg,ee,ec⟩
    simp only[ad.kind,ad.op]at cq aC oR
    subst cq
    simp(disch:=omega)only[go_sem,simprocAttr]at e
    refine cF bN Tryz.func77 DE (by simp only[b3,I.flat,ad.de,Bool.and_self]) rfl ?_
    unfold An B8
    simp(disch:=omega)only[go_sem,simprocAttr]
    refine ao ?_
    refine D.P (oR) ?_
    (have al:=aC;refine bQ ?_;clear al)
    refine D.P (e) ?_
    refine D.bR ?_
    refine D.bR ?_
    refine ao ?_
    exact D.rx
   ·have jG:fX x (cm x) k=cm x:=if_neg fun h=>aC h.2
    rw[jG]at ap ⊢
    have e:=key x bW aY (by omega)
    generalize cm x=iD at*
    rcases x with ⟨eb,ef,ed,eg,ee,ec⟩
    simp only[ad.kind,ad.op]at cq aC oR
    subst cq
    simp(disch:=omega)only[go_sem,simprocAttr]at e
    refine cF bN Tryz.func77 DE (by simp only[b3,I.flat,ad.de,Bool.and_self]) rfl ?_
    unfold An B8
    simp(disch:=omega)only[go_sem,simprocAttr]
    refine ao ?_
    refine D.P (oR) ?_
    (have al:=aC;refine bQ ?_;clear al)
    refine D.P (e) ?_
    refine ao ?_
    exact D.rx
  ·have jG:fX x (cm x) k=cm x:=if_neg fun h=>cq h.1
   rw[jG]at ap ⊢
   have e:=key x bW aY (by omega)
   generalize cm x=iD at*
   rcases x with ⟨eb,ef,ed,eg,ee,ec⟩
   simp only[ad.kind]at cq
   simp(disch:=omega)only[go_sem,simprocAttr]at e
   refine cF bN Tryz.func77 DE (by simp only[b3,I.flat,ad.de,Bool.and_self]) rfl ?_
   unfold An B8
   simp(disch:=omega)only[go_sem,simprocAttr]
   (have al:=cq;refine bQ ?_;clear al)
   refine D.P (e) ?_
   refine ao ?_
   exact D.rx
end
section
attribute [local go_sem] ad.ct ad.b9 ad.de ac.ct ac.b9 ac.de cj eN fZ gJ dp of_flat
theorem N0 (sep:a7){lL:List a7}{i:Nat}{y:a7}(h:lL[i]? =some y):Lib.join (lL.take (i+1)) sep=(if i=0 then[] else Lib.join (lL.take i) sep++sep)++y:=by
 cases lL with
 |nil=>simp at h
 |cons x r=>
  cases i with
  |zero=>
   simp only[List.getElem?_cons_zero,Option.some.injEq]at h
   subst h
   simp only[List.take_succ_cons,List.take_zero,Lib.join_one,if_true,List.nil_append]
  |succ i=>
   rw[List.getElem?_cons_succ]at h
   rw[List.take_succ_cons,Lib.join_cons,Lib.joinTail_take_succ _ _ _ _ h,if_neg (by omega),List.take_succ_cons,Lib.join_cons]
   simp only[List.append_assoc]
theorem N2 (sep:a7) (lL:List a7) (i:Nat):(Lib.join (lL.take i) sep).length≤(Lib.join lL sep).length:=by
 cases lL with
 |nil=>simp
 |cons x r=>
  cases i with
  |zero=>simp only[List.take_zero,Lib.join_nil,List.length_nil]; omega
  |succ i=>
   rw[List.take_succ_cons,Lib.join_cons,Lib.join_cons,List.length_append,List.length_append]
   have:=Lib.joinTail_take_le sep r i
   omega
theorem ar1 (l:List ad) (aP:ad.bB l≤1000000) (aY:l.all dB=true) (ap:(Lib.join (l.map cm) [44,32]).length≤1000000000):Pure Tryz.prog 131 [.ay 6 (l.map ad.row)] (.str (Lib.join (l.map cm) [44,32])):=by
 have j9:=ad.hZ l
 refine cF bN Tryz.func131 Um (by simp only[b3,I.flat,ad.b9,Bool.and_self]) rfl ?_
 unfold Jf PN
 simp(disch:=omega)only[go_sem,simprocAttr]
 refine ao ?_
 refine aj.dd (X:=Nat×a7) (0,[]) (fun x=>[(0,.ay 6 (l.map ad.row)),(3,.str x.2),(4,.int .i64 (x.1:Int))]) (fun _=>[]) (fun _=>[]) (fun x=>x.1≤l.length∧x.2=Lib.join ((l.map cm).take x.1) [44,32]) (fun x=>l.length-x.1) ⟨Nat.zero_le _,rfl⟩ ⟨rfl,rfl,rfl,trivial⟩ trivial trivial ?_
 rintro⟨i,o⟩ ⟨ai,aB⟩
 try simp only at ai aB ⊢
 have aH:o.length≤1000000000:=by
  rw[aB]
  exact Nat.le_trans (N2 _ _ _) ap
 cases af:l[i]? with
 |some v=>
  have cK:=(List.getElem?_eq_some_iff.1 af).1
  have gN:=List.mem_of_getElem? af
  have d1:(i:Int)<((l.map ad.row).length:Int):=by rw[List.length_map]; omega
  have Z6:=Nat.le_trans (Mx (sep:=[44,32]) (List.mem_map_of_mem (f:=cm) gN)) ap
  have e:=(s7 1000000).1 v (by have:=ad.pW gN; omega) (by simpa using List.all_eq_true.1 aY v gN) Z6
  have mv:=N0 [44,32] (show (l.map cm)[i]? =some (cm v) by rw[List.getElem?_map,af]; rfl)
  rw[←aB]at mv
  generalize cm v=tp at*
  rcases v with ⟨eb,ef,ed,eg,ee,ec⟩
  simp(disch:=omega)only[go_sem,simprocAttr]at e
  by_cases aw:i=0
  ·have d2: ¬(0:Int)<(i:Int):=by omega
   rw[if_pos aw,List.nil_append]at mv
   have aq:o=[]:=by rw[aB,aw]; rfl
   (have al:=d1;have z2:=d2;refine e8 ?_;clear al z2)
   refine D.P (e) ?_
   refine D.bR ?_ (hb:=by simp only[maxLen]; omega)
   refine ao ?_
   refine aj.dK (i+1,o++tp) ⟨by omega,by rw[mv,aq]; rfl⟩ ⟨rfl,rfl,by simp only[Int.natCast_add]; rfl,trivial⟩ trivial trivial rfl rfl (by show l.length-(i+1)<l.length-i; omega)
  ·have d2:(0:Int)<(i:Int):=by omega
   rw[if_neg aw]at mv
   (have al:=d1;have z2:=d2;refine e8 ?_;clear al z2)
   refine D.bR ?_
   refine ao ?_
   refine D.P (e) ?_
   refine D.bR ?_
   refine ao ?_
   refine aj.dK (i+1,o++[44,32]++tp) ⟨by omega,mv.symm⟩ ⟨rfl,rfl,by simp only[Int.natCast_add]; rfl,trivial⟩ trivial trivial rfl rfl (by show l.length-(i+1)<l.length-i; omega)
 |none=>
  have cM:=List.getElem?_eq_none_iff.1 af
  have bE:i=l.length:=by omega
  subst bE
  have d1: ¬(l.length:Int)<((l.map ad.row).length:Int):=by rw[List.length_map]; omega
  rw[List.take_of_length_le (by rw[List.length_map]; omega)]at aB
  (have al:=d1;refine bQ ?_;clear al)
  refine D.r ?_
  exact⟨_,rfl,.av (by rw[aB]; rfl) rfl,trivial,trivial⟩
end
section
attribute [local go_sem] ad.ct ad.b9 ad.de ac.ct ac.b9 ac.de cj eN fZ gJ dp of_flat
def kj (d:Nat):a7:=List.replicate d 9
theorem R9 (d:Nat):kj d++[9]=kj (d+1):=by
 unfold kj
 rw[List.replicate_succ']
theorem R7 (d:Nat):(kj d).length=d:=by simp [kj]
def kb (d:Nat) (l:List ac):a7:=[123,10]++ac.fF (d+1) l++kj d++[125]
mutual
def ac.l2 (d:Nat):ac→a7
 | .mk k m x t a b=>if k=1 then m++[32,61,32]++cm x++[59]
  else if k=3 then[119,104,105,108,101,32]++cm x++[32,116,105,109,101,115,32]++Lib.itoa t++[32]++kb d a
  else[105,102,32]++cm x++[32]++kb d a++(if b.isEmpty=true then[] else[32,101,108,115,101,32]++(if jH b=true then ac.yT d b else kb d b))
def ac.yT (d:Nat):List ac→a7
 |[]=>[]
 |y:: _=>ac.l2 d y
end
mutual
theorem ac.Fg (d:Nat): ∀x:ac,((x.kind=1∨x.kind=3)→∀bw,ac.gS d bw x=kj d++ac.l2 d x++[10])∧(¬x.kind=1→¬x.kind=3→∃r,ac.l2 d x=[105,102,32]++r∧∀bw,ac.gS d bw x=kj d++bw++r++[10])
 | .mk k m x t a b=>by
  have dc:=ac.XK d b
  simp only[ac.kind]
  refine⟨fun h bw=> ?_,fun J au=> ?_⟩
  ·by_cases J:k=1
   ·simp only[ac.gS,ac.l2,J,if_true,eE,List.flatten_cons,List.flatten_nil,List.append_assoc,List.append_nil]
    rfl
   ·have au:k=3:=h.resolve_left J
    simp only[ac.gS,ac.l2,au,show ¬(3:Int)=1 by decide,if_false,if_true,eE,List.flatten_cons,List.flatten_nil,List.append_assoc,List.append_nil,kb]
    rfl
  ·simp only[ac.gS,ac.l2,J,au,if_false,List.append_assoc]
   refine⟨_,rfl,fun bw=> ?_⟩
   cases b with
   |nil=>
    simp only[jH,List.isEmpty_nil,if_true,Bool.false_eq_true,if_false,eE,kb,List.flatten_cons,List.flatten_nil,List.append_assoc,List.append_nil,List.nil_append]
    rfl
   |cons y l=>
    simp only[List.isEmpty_cons,Bool.false_eq_true,if_false]
    cases hb:jH (y::l) with
    |true=>
     obtain⟨r,ar,ax⟩:=dc hb
     simp only[if_true,ar,ax,eE,kb,List.flatten_cons,List.flatten_nil,List.append_assoc,List.append_nil]
     simp [kj]
    |false=>
     simp only[Bool.false_eq_true,if_false,eE,kb,List.flatten_cons,List.flatten_nil,List.append_assoc,List.append_nil]
     simp [kj]
theorem ac.XK (d:Nat): ∀l:List ac,jH l=true→∃r,ac.yT d l=[105,102,32]++r∧ac.rC d l=kj d++[125,32,101,108,115,101,32,105,102,32]++r++[10]
 |[],h=>by simp [jH]at h
 |y::l,h=>by
  have aZ:=ac.Fg d y
  have aC:y.kind=2:=by
   cases l with
   |nil=>simpa [jH] using h
   |cons z l=>simp [jH]at h
  obtain⟨r,ar,ax⟩:=aZ.2 (by omega) (by omega)
  exact⟨r,by simp only[ac.yT,ar],by simp only[ac.rC,ax]⟩
end
theorem ac.O0 (d:Nat) (x:ac):ac.gS d [105,102,32] x=kj d++ac.l2 d x++[10]:=by
 by_cases h:x.kind=1∨x.kind=3
 ·exact (ac.Fg d x).1 h _
 ·obtain⟨r,ar,ax⟩:=(ac.Fg d x).2 (fun e=>h (.inl e)) (fun e=>h (.inr e))
  rw[ar,ax]
  simp only[List.append_assoc]
def kV (N:Nat):Prop:=∀(x:ac) (d:Nat),x.bI≤N→hX x=true→d+x.bI≤1000000→(ac.l2 d x).length≤1000000000→Pure Tryz.prog 184 [.agg x.row,.str (kj d)] (.str (ac.l2 d x))
def CO (N:Nat):Prop:=∀(l:List ac) (d:Nat),ac.bB l≤N→ho l=true→d+1+ac.bB l≤1000000→(kb d l).length≤1000000000→Pure Tryz.prog 130 [.ay 11 (l.map ac.row),.str (kj d)] (.str (kb d l))
theorem PK {N:Nat}(mo:kV N):CO N:=by
 intro l d bW aY bw aH
 have j9:=ac.hZ l
 have L9:=R7 d
 simp only[kb,List.length_append,List.length_cons,List.length_nil]at aH
 refine cF bN Tryz.func130 Ul (by simp only[b3,I.flat,ac.b9,Bool.and_self]) rfl ?_
 unfold Jd PM
 simp(disch:=omega)only[go_sem,simprocAttr]
 refine ao ?_
 refine aj.dd (X:=Nat×a7) (0,[123,10]) (fun x=>[(0,.ay 11 (l.map ac.row)),(1,.str (kj d)),(5,.str x.2),(6,.int .i64 (x.1:Int))]) (fun _=>[]) (fun _=>[]) (fun x=>x.1≤l.length∧x.2=[123,10]++ac.fF (d+1) (l.take x.1)) (fun x=>l.length-x.1) ⟨Nat.zero_le _,rfl⟩ ⟨rfl,rfl,rfl,rfl,trivial⟩ trivial trivial ?_
 rintro⟨i,o⟩ ⟨ai,aB⟩
 try simp only at ai aB ⊢
 have sY:o.length≤1000000010:=by
  have:=Fh (d+1) l i
  rw[aB,List.length_append,List.length_cons,List.length_cons,List.length_nil]
  omega
 cases af:l[i]? with
 |some v=>
  have cK:=(List.getElem?_eq_some_iff.1 af).1
  have gN:=List.mem_of_getElem? af
  have EE:=ac.pW gN
  have d1:(i:Int)<((l.map ac.row).length:Int):=by rw[List.length_map]; omega
  have hle:=OJ (d+1) af
  rw[ac.O0]at hle
  simp only[List.length_append,List.length_cons,List.length_nil]at hle
  have e:=mo v (d+1) (by omega) (by rw[yK]at aY; exact List.all_eq_true.1 aY v gN) (by omega) (by omega)
  have mv:[123,10]++ac.fF (d+1) (l.take (i+1))=o++(kj (d+1)++ac.l2 (d+1) v++[10]):=by rw[Fi _ af,ac.O0,←List.append_assoc,aB]
  have aP5:=R7 (d+1)
  have pS:(ac.l2 (d+1) v).length≤1000000000:=by omega
  generalize ac.l2 (d+1) v=tp at*
  rcases v with ⟨aS8,aS9,⟨eb,ef,ed,eg,ee,ec⟩,aT0,aR7,CF⟩
  simp(disch:=omega)only[go_sem,simprocAttr]at e
  (have al:=d1;refine bQ ?_;clear al)
  refine D.bR ?_
  rw[R9]
  refine ao ?_
  refine D.bR ?_
  rw[R9]
  refine ao ?_
  refine D.P (e) ?_
  refine D.bR ?_ (hb:=by simp only[maxLen]; omega)
  refine D.bR ?_
  refine D.bR ?_
  refine ao ?_
  refine aj.dK (i+1,o++(kj (d+1)++tp++[10])) ⟨by omega,mv.symm⟩ ⟨rfl,rfl,rfl,by simp only[Int.natCast_add]; rfl,trivial⟩ trivial trivial rfl rfl (by show l.length-(i+1)<l.length-i; omega)
 |none=>
  have cM:=List.getElem?_eq_none_iff.1 af
  have bE:i=l.length:=by omega
  subst bE
  have d1: ¬(l.length:Int)<((l.map ac.row).length:Int):=by rw[List.length_map]; omega
  rw[List.take_length]at aB
  (have al:=d1;refine bQ ?_;clear al)
  refine D.bR ?_ (hb:=by simp only[maxLen]; omega)
  refine D.bR ?_
  refine ao ?_
  refine D.r ?_
  exact⟨_,rfl,.av (by rw[aB]; rfl) rfl,trivial,trivial⟩
end
section
attribute [local go_sem] ad.ct ad.b9 ad.de ac.ct ac.b9 ac.de cj eN fZ gJ dp of_flat
theorem aq0 {N:Nat}(dX:CO N) (mo:kV N):kV (N+1):=by
 rintro⟨k,h7,x,t,hU,gD⟩ d bW aY bw aH
 simp only[ac.bI]at bW bw
 simp only[hX,Bool.and_eq_true]at aY
 obtain⟨bh,pQ,pP,lY⟩:=aY
 have xa:x.bI≤1000000:=by omega
 rcases Bi bh with ⟨rfl,rfl,aa,au⟩|⟨rfl,rfl,rfl⟩|⟨rfl,rfl,J,aa,au⟩
 ·simp only[ac.l2,if_true,List.length_append,List.length_cons,List.length_nil]at aH ⊢
  have e:=(s7 1000000).1 x xa pQ (by omega)
  generalize cm x=iD at*
  rcases x with ⟨eb,ef,ed,eg,ee,ec⟩
  simp(disch:=omega)only[go_sem,simprocAttr]at e
  refine cF bN Tryz.func184 wv (by simp only[b3,I.flat,ac.de,Bool.and_self]) rfl ?_
  unfold uV vV
  simp(disch:=omega)only[go_sem,simprocAttr]
  iterate 3 refine iT ?_
  repeat refine D.cN true true ?_
  refine aj.fs (anns:=[.str iD]) ?_
  refine bK ?_
  refine D.bR ?_
  refine bK ?_
  refine D.df (e) ?_
  refine D.bR ?_
  refine D.bR ?_
  refine ao ?_
  exact D.rx
 ·simp only[ac.l2,show ¬(2:Int)=1 by decide,show ¬(2:Int)=3 by decide,if_false]at aH ⊢
  obtain⟨T,c4⟩: ∃T,T=(if gD.isEmpty=true then[] else[32,101,108,115,101,32]++(if jH gD=true then ac.yT d gD else kb d gD)):=⟨_,rfl⟩
  rw[←c4]at aH ⊢
  simp only[List.length_append,List.length_cons,List.length_nil]at aH
  have e:=(s7 1000000).1 x xa pQ (by omega)
  by_cases dc:jH gD=true
  ·match gD,dc with
   |[y],dc=>
   have yy:y.kind=2:=by simpa [jH] using dc
   simp only[List.isEmpty_cons,Bool.false_eq_true,if_false,dc,if_true,ac.yT]at c4
   simp only[ac.bB]at bW bw
   simp only[ho,Bool.and_true]at lY
   have mm:=dX hU d (by omega) pP (by omega) (by omega)
   have rD:=mo y d (by omega) lY (by omega) (by have:=congrArg List.length c4; simp only[List.length_append,List.length_cons,List.length_nil]at this; omega)
   generalize cm x=iD at*
   generalize kb d hU=qO at*
   generalize ac.l2 d y=N8 at*
   subst c4
   simp only[List.length_append,List.length_cons,List.length_nil]at aH
   rcases x with ⟨eb,ef,ed,eg,ee,ec⟩
   rcases y with ⟨sv,x7,⟨SX,mO,SZ,S5,S0,SY⟩,uU,tB,su⟩
   simp only[ac.kind]at yy
   subst yy
   simp(disch:=omega)only[go_sem,simprocAttr]at e
   simp(disch:=omega)only[go_sem,simprocAttr]at rD
   refine cF bN Tryz.func184 wv (by simp only[b3,I.flat,ac.de,Bool.and_self]) rfl ?_
   unfold uV vV
   simp(disch:=omega)only[go_sem,simprocAttr]
   iterate 4 refine iT ?_
   repeat refine D.cN true true ?_
   refine aj.fs (anns:=[.str iD,.str qO]) ?_
   refine bK ?_
   refine D.df (e) ?_
   refine D.bR ?_
   refine D.bR ?_
   refine bK ?_
   refine D.df (mm) ?_
   refine D.bR ?_
   refine ao ?_
   refine D.bR ?_
   refine ao ?_
   refine D.P (rD) ?_
   refine D.bR ?_
   refine ao ?_
   refine D.r ?_
   exact⟨_,rfl,.av (by simp [I.av]) rfl,trivial,trivial⟩
  cases Ed:jH gD with
  |true=>exact absurd Ed dc
  |false=>
  rw[Ed]at c4
  simp only[Bool.false_eq_true,if_false]at c4
  have mm:=dX hU d (by omega) pP (by omega) (by omega)
  cases xU:gD.isEmpty with
  |true=>
   rw[xU]at c4
   simp only[if_true]at c4
   subst c4
   have qI:gD=[]:=by simpa using xU
   subst qI
   generalize cm x=iD at*
   generalize kb d hU=qO at*
   rcases x with ⟨eb,ef,ed,eg,ee,ec⟩
   simp(disch:=omega)only[go_sem,simprocAttr]at e
   refine cF bN Tryz.func184 wv (by simp only[b3,I.flat,ac.de,Bool.and_self]) rfl ?_
   unfold uV vV
   simp(disch:=omega)only[go_sem,simprocAttr]
   iterate 4 refine iT ?_
   repeat refine D.cN true true ?_
   refine aj.fs (anns:=[.str iD,.str qO]) ?_
   refine bK ?_
   refine D.df (e) ?_
   refine D.bR ?_
   refine D.bR ?_
   refine bK ?_
   refine D.df (mm) ?_
   refine D.bR ?_
   refine ao ?_
   refine D.r ?_
   exact⟨_,rfl,.av (by simp [I.av]) rfl,trivial,trivial⟩
  |false=>
  rw[xU]at c4
  simp only[Bool.false_eq_true,if_false]at c4
  have rD:=dX gD d (by omega) lY (by omega) (by have:=congrArg List.length c4; simp only[List.length_append,List.length_cons,List.length_nil]at this; omega)
  by_cases J:gD.length=1
  ·match gD,J with
   |[y],_=>
   have yy: ¬y.kind=2:=by simpa [jH] using Ed
   generalize cm x=iD at*
   generalize kb d hU=qO at*
   generalize kb d [y]=N8 at*
   subst c4
   simp only[List.length_append,List.length_cons,List.length_nil]at aH
   rcases x with ⟨eb,ef,ed,eg,ee,ec⟩
   rcases y with ⟨sv,x7,⟨SX,mO,SZ,S5,S0,SY⟩,uU,tB,su⟩
   simp only[ac.kind]at yy
   simp only[List.map_cons,List.map_nil]at rD
   simp(disch:=omega)only[go_sem,simprocAttr]at e
   simp(disch:=omega)only[go_sem,simprocAttr]at rD
   refine cF bN Tryz.func184 wv (by simp only[b3,I.flat,ac.de,Bool.and_self]) rfl ?_
   unfold uV vV
   simp(disch:=omega)only[go_sem,simprocAttr]
   iterate 4 refine iT ?_
   repeat refine D.cN true true ?_
   refine aj.fs (anns:=[.str iD,.str qO]) ?_
   refine bK ?_
   refine D.df (e) ?_
   refine D.bR ?_
   refine D.bR ?_
   refine bK ?_
   refine D.df (mm) ?_
   refine D.bR ?_
   (have al:=yy;refine bQ ?_;clear al)
   refine D.bR ?_
   refine ao ?_
   refine D.P (rD) ?_
   refine D.bR ?_
   refine ao ?_
   refine D.r ?_
   exact⟨_,rfl,.av (by simp [I.av]) rfl,trivial,trivial⟩
  ·have aw:gD.length≠0:=by
    intro bE
    rw[List.length_eq_zero_iff.1 bE]at xU
    simp at xU
   have d0: ¬((gD.map ac.row).length:Int)=0:=by rw[List.length_map]; omega
   have d1: ¬((gD.map ac.row).length:Int)=1:=by rw[List.length_map]; omega
   generalize cm x=iD at*
   generalize kb d hU=qO at*
   generalize kb d gD=N8 at*
   subst c4
   simp only[List.length_append,List.length_cons,List.length_nil]at aH
   rcases x with ⟨eb,ef,ed,eg,ee,ec⟩
   simp(disch:=omega)only[go_sem,simprocAttr]at e
   refine cF bN Tryz.func184 wv (by simp only[b3,I.flat,ac.de,Bool.and_self]) rfl ?_
   unfold uV vV
   simp(disch:=omega)only[go_sem,simprocAttr]
   iterate 4 refine iT ?_
   repeat refine D.cN true true ?_
   refine aj.fs (anns:=[.str iD,.str qO]) ?_
   refine bK ?_
   refine D.df (e) ?_
   refine D.bR ?_
   refine D.bR ?_
   refine bK ?_
   refine D.df (mm) ?_
   refine D.bR ?_
   (have al:=d0;have z2:=d1;refine e8 ?_;clear al z2)
   refine D.bR ?_
   refine ao ?_
   refine D.P (rD) ?_
   refine D.bR ?_
   refine ao ?_
   refine D.r ?_
   exact⟨_,rfl,.av (by simp [I.av]) rfl,trivial,trivial⟩
 ·simp only[ac.l2,show ¬(3:Int)=1 by decide,if_false,if_true,List.length_append,List.length_cons,List.length_nil]at aH ⊢
  have e:=(s7 1000000).1 x xa pQ (by omega)
  have en:=zg t (by omega) (by omega)
  have mm:=dX hU d (by omega) pP (by omega) (by omega)
  generalize cm x=iD at*
  generalize Lib.itoa t=jS at*
  generalize kb d hU=qO at*
  rcases x with ⟨eb,ef,ed,eg,ee,ec⟩
  simp(disch:=omega)only[go_sem,simprocAttr]at e
  refine cF bN Tryz.func184 wv (by simp only[b3,I.flat,ac.de,Bool.and_self]) rfl ?_
  unfold uV vV
  simp(disch:=omega)only[go_sem,simprocAttr]
  iterate 4 refine iT ?_
  repeat refine D.cN true true ?_
  refine aj.fs (anns:=[.str iD,.str jS,.str qO]) ?_
  refine bK ?_
  refine D.df (e) ?_
  refine D.bR ?_
  refine D.bR ?_
  refine bK ?_
  refine D.df (en) ?_
  refine D.bR ?_
  refine D.bR ?_
  refine bK ?_
  refine D.df (mm) ?_
  refine D.bR ?_
  refine ao ?_
  refine D.r ?_
  exact⟨_,rfl,.av (by simp [I.av]) rfl,trivial,trivial⟩
theorem Ff: ∀N,kV N∧CO N
 |0=>by
  have h:kV 0:=by
   rintro⟨k,h7,x,t,hU,gD⟩ d bW
   simp only[ac.bI]at bW
   omega
  exact⟨h,PK h⟩
 |N+1=>by
  have h:=aq0 (Ff N).2 (Ff N).1
  exact⟨h,PK h⟩
end
section
attribute [local go_sem] ad.ct ad.b9 ad.de ac.ct ac.b9 ac.de cj eN fZ gJ dp of_flat cb.row dG
theorem aL4 (v:cb):jT v=[9,118,97,114,32]++v.name++[58,32]++(if v.hV=2 then[116,101,120,116] else[105,110,116])++[32]++Lib.itoa v.cz++[32,46,46,32]++Lib.itoa v.ai++[32,61,32]++qM v.ik v.n v.s++[59,10]:=by
 unfold jT eE
 split<;>simp
theorem LI (h:cd):jb h=([9,111,110,32]++h.eK++[40])++Lib.join h.ps [44,32]++([41,32,102,114,111,109,32]++h.peer++[32]++kb 1 h.body++[10]):=by
 unfold jb eE kb
 simp [kj]
theorem ak4 (o:ca):jJ o=([9,111,102,102,101,114,32]++o.eK++[40]++Lib.join (o.args.map cm) [44,32]++[41,32,116,111,32]++o.peer)++p9 o.dT++[59,10]:=by
 unfold jJ eE
 simp
theorem O5 (x:e9) (ab:CU x):Pure Tryz.prog 57 [x.ir] (.str (iK x)):=by
 have eC:=ab.len
 have Em:=ab.nS
 have Ek:=ab.nh
 have ck:=ab.no
 obtain⟨F,oV⟩: ∃F,F=iK x:=⟨_,rfl⟩
 rw[←oV]at eC ⊢
 unfold iK at oV
 obtain⟨H0,w7⟩: ∃H0,H0=eE 0 [[115,101,114,118,105,99,101,32],x.name,[32,112,108,97,121,115,32],x.hD,[32,111,102,32],x.hA,[32,123]]:=⟨_,rfl⟩
 obtain⟨E,dc⟩: ∃E,E=eE 0 [[125]]:=⟨_,rfl⟩
 rw[←w7,←dc]at oV
 have Be:=congrArg List.length oV
 simp only[List.length_append]at Be
 have Ew:H0=[115,101,114,118,105,99,101,32]++x.name++[32,112,108,97,121,115,32]++x.hD++[32,111,102,32]++x.hA++[32,123,10]:=by rw[w7]; unfold eE; simp
 have Yv:=congrArg List.length Ew
 simp only[List.length_append,List.length_cons,List.length_nil]at Yv
 rw[lq]
 refine cF bN Tryz.func57 Vy (by simp only[b3,I.flat,dG,dp,of_flat,Bool.and_self]) rfl ?_
 unfold ww QX
 simp(disch:=omega)only[go_sem,simprocAttr]
 iterate 2 refine iT ?_
 refine D.bR ?_
 refine D.bR ?_
 refine bK ?_
 refine D.bR ?_
 refine D.bR ?_
 refine bK ?_
 refine D.bR ?_
 refine D.bR ?_
 refine ao ?_
 have aO2: ∃ij,ij=H0∧ij=[115,101,114,118,105,99,101,32]++x.name++[32,112,108,97,121,115,32]++x.hD++[32,111,102,32]++x.hA++[32,123,10]:=⟨_,rfl,Ew⟩
 refine aj.dd (X:=Nat×a7) (0,H0) (fun y=>[(1,.ptr 0 0),(3,.str y.2),(4,.int .i64 (y.1:Int))]) (fun _=>[(0,35,x.cells)]) (fun _=>[]) (fun y=>y.1≤x.vars.length∧y.2=H0++((x.vars.take y.1).map jT).flatten) (fun y=>x.vars.length-y.1) ⟨Nat.zero_le _,by simp⟩ ⟨rfl,by simp only[Ew,List.cons_append,List.nil_append]; rfl,rfl,trivial⟩ ⟨by simp only[fG]; rfl,trivial⟩ trivial ?_
 rintro⟨i,o⟩ ⟨ai,aB⟩
 try simp only at ai aB ⊢
 have sY:=BJ jT x.vars i
 have ub:=congrArg List.length aB
 rw[List.length_append]at ub
 have Mz:o.length≤900000000:=by omega
 clear sY ub
 simp only[fG]
 cases af:x.vars[i]? with
 |some v=>
  have cK:=(List.getElem?_eq_some_iff.1 af).1
  have gN:=List.mem_of_getElem? af
  have mZ:iN v=true:=by simpa using List.all_eq_true.1 ab.ay v gN
  have d1:(i:Int)<((x.vars.map cb.row).length:Int):=by rw[List.length_map]; omega
  have fy:H0++((x.vars.take (i+1)).map jT).flatten=o++jT v:=by rw[vI jT af,aB,List.append_assoc]
  obtain⟨g1,g2,g3,g4,g5,g6⟩:=DW mZ
  have kc:=SA mZ
  rw[aL4]at fy kc
  have D2: -1000000000≤v.n∧v.n≤1000000000:=by
   by_cases h:v.ik=2
   ·simp only[iN,Bool.and_eq_true,h,show ¬(2:Int)=1 by decide,if_true,if_false,decide_eq_true_eq]at mZ
    omega
   ·exact g5 h
  have fR:=zg v.cz g1 g2
  have il:=zg v.ai g3 g4
  have gl:=zg v.n D2.1 D2.2
  have mB:=PJ v.s (by omega)
  simp only[qM]at fy kc
  rcases v with ⟨h7,hV,cz,gB,ik,n,s⟩
  simp only at fR il gl mB fy kc
  generalize Lib.itoa cz=s1 at*
  generalize Lib.itoa gB=s2 at*
  generalize Lib.itoa n=oA at*
  generalize p4 s=Cl at*
  clear D2 g1 g2 g3 g4 g5 g6 mZ
  by_cases aC:hV=2
  ·subst aC
   rw[if_pos rfl]at fy kc
   by_cases aa:ik=2
   ·subst aa
    rw[if_pos rfl]at fy kc
    simp only[List.length_append,List.length_cons,List.length_nil]at kc
    (have al:=d1;refine bQ ?_;clear al)
    refine D.P (gl) ?_
    refine bK ?_
    iterate 3 refine iT ?_
    (repeat (apply aj.s true true;(·simp(disch:=omega)only[go_sem,simprocAttr,]<;>with_reducible rfl)))
    refine aj.b6 ?_
    refine bK ?_
    refine D.P (mB) ?_
    refine bK ?_
    (repeat (apply aj.s true true;(·simp(disch:=omega)only[go_sem,simprocAttr,]<;>with_reducible rfl)))
    refine aj.fs (anns:=[.str s1,.str s2]) ?_
    refine bK ?_
    refine D.bR ?_
    refine D.bR ?_
    refine bK ?_
    refine D.bR ?_
    refine D.bR ?_
    refine bK ?_
    refine D.df (fR) ?_
    refine D.bR ?_
    refine D.bR ?_
    refine bK ?_
    refine D.df (il) ?_
    refine D.bR ?_
    refine D.bR ?_
    refine bK ?_
    refine D.bR ?_
    refine D.bR ?_
    refine D.bR ?_
    refine ao ?_
    refine aj.gT (i+1,o++([9,118,97,114,32]++h7++[58,32]++[116,101,120,116]++[32]++s1++[32,46,46,32]++s2++[32,61,32]++Cl++[59,10])) ⟨by omega,fy.symm⟩ ⟨rfl,rfl,by simp only[Int.natCast_add]; rfl,trivial⟩ ⟨rfl,trivial⟩ trivial rfl (by simp only[fY,dr,dP,dV,fO,I.cR,b2.bJ,fG,lT,dG,dp,of_flat,go_sem]<;>rfl) (by show x.vars.length-(i+1)<x.vars.length-i; omega)
   ·rw[if_neg aa]at fy kc
    simp only[List.length_append,List.length_cons,List.length_nil]at kc
    (have al:=d1;refine bQ ?_;clear al)
    refine D.P (gl) ?_
    refine bK ?_
    (have al:=aa;refine gA ?_;refine gA ?_;refine gA ?_;clear al)
    (have al:=aa;refine yd ?_;clear al)
    refine aj.fs (anns:=[.str s1,.str s2]) ?_
    refine bK ?_
    refine D.bR ?_
    refine D.bR ?_
    refine bK ?_
    refine D.bR ?_
    refine D.bR ?_
    refine bK ?_
    refine D.df (fR) ?_
    refine D.bR ?_
    refine D.bR ?_
    refine bK ?_
    refine D.df (il) ?_
    refine D.bR ?_
    refine D.bR ?_
    refine bK ?_
    refine D.bR ?_
    refine D.bR ?_
    refine D.bR ?_
    refine ao ?_
    refine aj.gT (i+1,o++([9,118,97,114,32]++h7++[58,32]++[116,101,120,116]++[32]++s1++[32,46,46,32]++s2++[32,61,32]++oA++[59,10])) ⟨by omega,fy.symm⟩ ⟨rfl,rfl,by simp only[Int.natCast_add]; rfl,trivial⟩ ⟨rfl,trivial⟩ trivial rfl (by simp only[fY,dr,dP,dV,fO,I.cR,b2.bJ,fG,lT,dG,dp,of_flat,go_sem]<;>rfl) (by show x.vars.length-(i+1)<x.vars.length-i; omega)
  ·rw[if_neg aC]at fy kc
   by_cases aa:ik=2
   ·subst aa
    rw[if_pos rfl]at fy kc
    simp only[List.length_append,List.length_cons,List.length_nil]at kc
    (have al:=d1;refine bQ ?_;clear al)
    refine D.P (gl) ?_
    refine bK ?_
    (have al:=aC;refine gA ?_;refine gA ?_;clear al)
    (have al:=aC;refine yd ?_;clear al)
    refine aj.b6 ?_
    refine bK ?_
    refine D.P (mB) ?_
    refine bK ?_
    (repeat (apply aj.s true true;(·simp(disch:=omega)only[go_sem,simprocAttr,]<;>with_reducible rfl)))
    refine aj.fs (anns:=[.str s1,.str s2]) ?_
    refine bK ?_
    refine D.bR ?_
    refine D.bR ?_
    refine bK ?_
    refine D.bR ?_
    refine D.bR ?_
    refine bK ?_
    refine D.df (fR) ?_
    refine D.bR ?_
    refine D.bR ?_
    refine bK ?_
    refine D.df (il) ?_
    refine D.bR ?_
    refine D.bR ?_
    refine bK ?_
    refine D.bR ?_
    refine D.bR ?_
    refine D.bR ?_
    refine ao ?_
    refine aj.gT (i+1,o++([9,118,97,114,32]++h7++[58,32]++[105,110,116]++[32]++s1++[32,46,46,32]++s2++[32,61,32]++Cl++[59,10])) ⟨by omega,fy.symm⟩ ⟨rfl,rfl,by simp only[Int.natCast_add]; rfl,trivial⟩ ⟨rfl,trivial⟩ trivial rfl (by simp only[fY,dr,dP,dV,fO,I.cR,b2.bJ,fG,lT,dG,dp,of_flat,go_sem]<;>rfl) (by show x.vars.length-(i+1)<x.vars.length-i; omega)
   ·rw[if_neg aa]at fy kc
    simp only[List.length_append,List.length_cons,List.length_nil]at kc
    (have al:=d1;refine bQ ?_;clear al)
    refine D.P (gl) ?_
    refine bK ?_
    (have al:=aC;have z2:=aa;refine fo ?_;refine fo ?_;clear al z2)
    (have al:=aC;have z2:=aa;refine ye ?_;clear al z2)
    refine aj.fs (anns:=[.str s1,.str s2]) ?_
    refine bK ?_
    refine D.bR ?_
    refine D.bR ?_
    refine bK ?_
    refine D.bR ?_
    refine D.bR ?_
    refine bK ?_
    refine D.df (fR) ?_
    refine D.bR ?_
    refine D.bR ?_
    refine bK ?_
    refine D.df (il) ?_
    refine D.bR ?_
    refine D.bR ?_
    refine bK ?_
    refine D.bR ?_
    refine D.bR ?_
    refine D.bR ?_
    refine ao ?_
    refine aj.gT (i+1,o++([9,118,97,114,32]++h7++[58,32]++[105,110,116]++[32]++s1++[32,46,46,32]++s2++[32,61,32]++oA++[59,10])) ⟨by omega,fy.symm⟩ ⟨rfl,rfl,by simp only[Int.natCast_add]; rfl,trivial⟩ ⟨rfl,trivial⟩ trivial rfl (by simp only[fY,dr,dP,dV,fO,I.cR,b2.bJ,fG,lT,dG,dp,of_flat,go_sem]<;>rfl) (by show x.vars.length-(i+1)<x.vars.length-i; omega)
 |none=>
 have cM:=List.getElem?_eq_none_iff.1 af
 have bE:i=x.vars.length:=by omega
 subst bE
 rw[List.take_length]at aB
 have d1: ¬(x.vars.length:Int)<((x.vars.map cb.row).length:Int):=by rw[List.length_map]; omega
 (have al:=d1;refine bQ ?_;clear al)
 clear af cM d1 ai
 revert o
 intro V aP2 ol
 refine aj.dd (X:=Nat×a7) (0,V) (fun y=>[(1,.ptr 0 0),(3,.str y.2),(8,.int .i64 (y.1:Int))]) (fun _=>[(0,35,x.cells)]) (fun _=>[]) (fun y=>y.1≤x.ap.length∧y.2=V++((x.ap.take y.1).map jb).flatten) (fun y=>x.ap.length-y.1) ⟨Nat.zero_le _,by simp⟩ ⟨rfl,rfl,rfl,trivial⟩ ⟨by simp only[fG]; rfl,trivial⟩ trivial ?_
 rintro⟨i,o⟩ ⟨ai,aB⟩
 try simp only at ai aB ⊢
 have sY:=BJ jb x.ap i
 have ub:=congrArg List.length aB
 have Lp:=congrArg List.length ol
 rw[List.length_append]at ub Lp
 have Mz:o.length≤900000000:=by omega
 clear sY ub
 simp only[fG]
 cases af:x.ap[i]? with
 |some v=>
  have cK:=(List.getElem?_eq_some_iff.1 af).1
  have gN:=List.mem_of_getElem? af
  have mZ:jZ v=true:=by simpa using List.all_eq_true.1 ab.ap v gN
  have d1:(i:Int)<((x.ap.map cd.row).length:Int):=by rw[List.length_map]; omega
  have fy:V++((x.ap.take (i+1)).map jb).flatten=o++jb v:=by rw[vI jb af,aB,List.append_assoc]
  obtain⟨g1,g2⟩:=yI mZ
  have kc:=zj jb af
  rw[LI]at fy kc
  have hb:(jb v).length≤900000000:=by rw[LI]; omega
  have aP:=ab.aP v gN
  rcases v with ⟨eK,peer,ps,body⟩
  simp only at g1 g2 fy kc aP
  have LN:(Lib.join ps [44,32]).length≤900000000∧(kb 1 body).length≤900000000∧eK.length≤900000000∧peer.length≤900000000:=by
   simp only[List.length_append,List.length_cons,List.length_nil]at kc
   omega
  have fR:=(Ff 900000).2 body 1 aP g1 (by omega) (by omega)
  rw[show kj 1=[9] from rfl]at fR
  (have al:=d1;refine bQ ?_;clear al)
  refine D.bR ?_
  refine D.bR ?_
  refine D.bR ?_
  refine ao ?_
  have Mu:=N2 [44,32] ps
  obtain⟨wk,Ex⟩: ∃wk,wk=o++([9,111,110,32]++eK++[40]):=⟨_,rfl⟩
  have aP1:wk.length≤1900000000:=by
   rw[Ex]
   simp only[List.length_append,List.length_cons,List.length_nil]
   omega
  refine aj.dd (X:=Nat×a7) (0,wk) (fun y=>[(1,.ptr 0 0),(9,.ptr 1 0),(3,.str y.2),(8,.int .i64 (i:Int)),(10,.int .i64 (y.1:Int))]) (fun _=>[(1,99,(cd.mk eK peer ps body).row),(0,35,x.cells)]) (fun _=>[]) (fun y=>y.1≤ps.length∧y.2=wk++Lib.join (ps.take y.1) [44,32]) (fun y=>ps.length-y.1) ⟨Nat.zero_le _,by simp [Lib.join_nil]⟩ ⟨rfl,rfl,by simp only[Ex,List.cons_append,List.nil_append]; rfl,rfl,rfl,trivial⟩ ⟨by simp only[fZ]; rfl,by simp only[fG]; rfl,trivial⟩ trivial ?_
  rintro⟨j,q⟩ ⟨bq,bG⟩
  try simp only at bq bG ⊢
  have Eo:q.length≤2800000000:=by
   have:=Mu j
   rw[bG,List.length_append]
   omega
  simp only[fG,fZ]
  cases hw:ps[j]? with
  |some s=>
   have ZU:=(List.getElem?_eq_some_iff.1 hw).1
   have d2:(j:Int)<((ps.map cj).length:Int):=by rw[List.length_map]; omega
   have xk:=N0 [44,32] hw
   have pS:s.length≤900000000:=by
    have:=congrArg List.length xk
    have aa:=Mu (j+1)
    rw[List.length_append]at this
    omega
   by_cases aw:j=0
   ·have d3: ¬(0:Int)<(j:Int):=by omega
    rw[if_pos aw,List.nil_append]at xk
    have aq:q=wk:=by rw[bG,aw]; simp [Lib.join_nil]
    (have al:=d2;have z2:=d3;refine e8 ?_;clear al z2)
    refine D.bR ?_ (hb:=by simp only[maxLen]; omega)
    refine ao ?_
    refine aj.dK (j+1,q++s) ⟨by omega,by rw[xk,aq]⟩ ⟨rfl,rfl,rfl,rfl,by simp only[Int.natCast_add]; rfl,trivial⟩ ⟨rfl,rfl,trivial⟩ trivial rfl rfl (by show ps.length-(j+1)<ps.length-j; omega)
   ·have d3:(0:Int)<(j:Int):=by omega
    rw[if_neg aw]at xk
    (have al:=d2;have z2:=d3;refine e8 ?_;clear al z2)
    refine D.bR ?_
    refine ao ?_
    refine D.bR ?_
    refine ao ?_
    refine aj.dK (j+1,q++[44,32]++s) ⟨by omega,by rw[xk,bG]; simp only[List.append_assoc]⟩ ⟨rfl,rfl,rfl,rfl,by simp only[Int.natCast_add]; rfl,trivial⟩ ⟨rfl,rfl,trivial⟩ trivial rfl rfl (by show ps.length-(j+1)<ps.length-j; omega)
  |none=>
  have cM:=List.getElem?_eq_none_iff.1 hw
  have bE:j=ps.length:=by omega
  subst bE
  rw[List.take_length]at bG
  have d2: ¬(ps.length:Int)<((ps.map cj).length:Int):=by rw[List.length_map]; omega
  have Bw:V++((x.ap.take (i+1)).map jb).flatten=q++([41,32,102,114,111,109,32]++peer++[32]++kb 1 body++[10]):=by
   rw[fy,bG,Ex]
   simp only[List.append_assoc]
  clear fy
  generalize kb 1 body=B at*
  (have al:=d2;refine gA ?_;clear al)
  (have al:=d2;refine yd ?_;clear al)
  refine aj.fs (anns:=[.str B]) ?_
  refine bK ?_
  refine D.bR ?_
  refine D.bR ?_
  refine bK ?_
  refine D.df (fR) ?_
  refine D.bR ?_
  refine D.bR ?_
  refine D.bR ?_
  refine ao ?_
  refine aj.gT (i+1,q++([41,32,102,114,111,109,32]++peer++[32]++B++[10])) ⟨by omega,Bw.symm⟩ ⟨rfl,rfl,by simp only[Int.natCast_add]; rfl,trivial⟩ ⟨rfl,trivial⟩ trivial rfl (by simp only[fY,dr,dP,dV,fO,I.cR,b2.bJ,fG,lT,dG,dp,of_flat,go_sem]<;>rfl) (by show x.ap.length-(i+1)<x.ap.length-i; omega)
 |none=>
 have cM:=List.getElem?_eq_none_iff.1 af
 have bE:i=x.ap.length:=by omega
 subst bE
 rw[List.take_length]at aB
 have d1: ¬(x.ap.length:Int)<((x.ap.map cd.row).length:Int):=by rw[List.length_map]; omega
 (have al:=d1;refine bQ ?_;clear al)
 clear af cM d1 ai
 revert o
 intro W aP4 yM
 have YA:=congrArg List.length yM
 rw[List.length_append]at YA
 refine aj.dd (X:=Nat×a7) (0,W) (fun y=>[(1,.ptr 0 0),(3,.str y.2),(11,.int .i64 (y.1:Int))]) (fun _=>[(0,35,x.cells)]) (fun _=>[]) (fun y=>y.1≤x.os.length∧y.2=W++((x.os.take y.1).map jJ).flatten) (fun y=>x.os.length-y.1) ⟨Nat.zero_le _,by simp⟩ ⟨rfl,rfl,rfl,trivial⟩ ⟨by simp only[fG]; rfl,trivial⟩ trivial ?_
 rintro⟨i,o⟩ ⟨ai,aB⟩
 try simp only at ai aB ⊢
 have sY:=BJ jJ x.os i
 have ub:=congrArg List.length aB
 rw[List.length_append]at ub
 have Mz:o.length≤900000000:=by omega
 clear sY ub
 simp only[fG]
 cases af:x.os[i]? with
 |some v=>
  have cK:=(List.getElem?_eq_some_iff.1 af).1
  have gN:=List.mem_of_getElem? af
  have mZ:j6 v=true:=by simpa using List.all_eq_true.1 ab.os v gN
  have d1:(i:Int)<((x.os.map ca.row).length:Int):=by rw[List.length_map]; omega
  have fy:W++((x.os.take (i+1)).map jJ).flatten=o++jJ v:=by rw[vI jJ af,aB,List.append_assoc]
  obtain⟨g1,g2,g3⟩:=yJ mZ
  have kc:=zj jJ af
  rw[ak4]at fy kc
  have aP:=ab.o6 v gN
  rcases v with ⟨eK,peer,args,dT⟩
  simp only at g1 g2 g3 fy kc aP
  simp only[List.length_append,List.length_cons,List.length_nil]at kc
  have il:=ar1 args (by omega) g1 (by omega)
  generalize Lib.join (args.map cm) [44,32]=A at*
  match dT,g2,g3 with
  |[],_,_=>
   simp only[p9,List.append_nil]at fy
   (have al:=d1;refine gA ?_;refine gA ?_;clear al)
   (repeat (apply aj.s true true;(·simp(disch:=omega)only[go_sem,simprocAttr,]<;>with_reducible rfl)))
   refine aj.fs (anns:=[.str A]) ?_
   refine bK ?_
   refine D.bR ?_
   refine D.bR ?_
   refine bK ?_
   refine D.df (il) ?_
   refine D.bR ?_
   refine D.bR ?_
   refine bK ?_
   refine D.bR ?_
   refine D.bR ?_
   refine ao ?_
   refine D.bR ?_
   refine ao ?_
   refine aj.gT (i+1,o++([9,111,102,102,101,114,32]++eK++[40]++A++[41,32,116,111,32]++peer)++[59,10]) ⟨by omega,by rw[fy]; simp only[List.append_assoc]⟩ ⟨rfl,rfl,by simp only[Int.natCast_add]; rfl,trivial⟩ ⟨rfl,trivial⟩ trivial rfl (by simp only[fY,dr,dP,dV,fO,I.cR,b2.bJ,fG,lT,dG,dp,of_flat,go_sem]<;>rfl) (by show x.os.length-(i+1)<x.os.length-i; omega)
  |[z],g2,_=>
   simp only[List.all_cons,List.all_nil,Bool.and_true]at g2
   simp only[ad.bB]at aP
   simp only[p9,List.length_append,List.length_cons,List.length_nil]at fy kc
   have gl:=(s7 1000000).1 z (by omega) g2 (by omega)
   generalize cm z=oB at*
   rcases z with ⟨SX,mO,SZ,S5,S0,SY⟩
   simp(disch:=omega)only[go_sem,simprocAttr]at gl
   (have al:=d1;refine gA ?_;refine gA ?_;clear al)
   (repeat (apply aj.s true true;(·simp(disch:=omega)only[go_sem,simprocAttr,]<;>with_reducible rfl)))
   refine aj.fs (anns:=[.str A]) ?_
   refine bK ?_
   refine D.bR ?_
   refine D.bR ?_
   refine bK ?_
   refine D.df (il) ?_
   refine D.bR ?_
   refine D.bR ?_
   refine bK ?_
   refine D.bR ?_
   refine D.bR ?_
   refine ao ?_
   refine D.P (gl) ?_
   refine D.bR ?_
   refine D.bR ?_
   refine ao ?_
   refine D.bR ?_
   refine ao ?_
   refine aj.gT (i+1,o++([9,111,102,102,101,114,32]++eK++[40]++A++[41,32,116,111,32]++peer)++([32,119,104,101,114,101,32]++oB)++[59,10]) ⟨by omega,by rw[fy]; simp only[List.append_assoc]⟩ ⟨rfl,rfl,by simp only[Int.natCast_add]; rfl,trivial⟩ ⟨rfl,trivial⟩ trivial rfl (by simp only[fY,dr,dP,dV,fO,I.cR,b2.bJ,fG,lT,dG,dp,of_flat,go_sem]<;>rfl) (by show x.os.length-(i+1)<x.os.length-i; omega)
 |none=>
 have cM:=List.getElem?_eq_none_iff.1 af
 have bE:i=x.os.length:=by omega
 subst bE
 rw[List.take_length]at aB
 have d1: ¬(x.os.length:Int)<((x.os.map ca.row).length:Int):=by rw[List.length_map]; omega
 (have al:=d1;refine bQ ?_;clear al)
 refine D.bR ?_
 refine ao ?_
 refine D.r ?_
 refine⟨_,rfl,.av ?_ rfl,trivial,trivial⟩
 rw[oV,aB,yM,ol,dc]
 simp [I.av,eE]
end
section
attribute [local go_sem] ad.ct ad.b9 ad.de ac.ct ac.b9 ac.de cj eN fZ gJ dp of_flat
theorem Fv: ∀(N:Nat) (x:ad),x.bI≤N→N≤1000000000→Pure Tryz.prog 138 [.agg x.row] (.int .i64 (iL x:Int))
 |0,.mk k o m t n l,h,_=>by simp only[ad.bI]at h; omega
 |N+1,.mk k o m t n l,bW,rO=>by
  simp only[ad.bI]at bW
  have j9:l.length≤1000000000:=by have:=ad.hZ l; omega
  have yR:=AG l
  simp only[iL]
  refine cF bN Tryz.func138 Ux (by simp only[b3,I.flat,ad.de,Bool.and_self]) rfl ?_
  unfold JW PY
  simp(disch:=omega)only[go_sem,simprocAttr]
  refine ao ?_
  refine aj.dd (X:=Nat×Nat) (0,0) (fun y=>[(1,.ptr 0 0),(4,.int .i64 (y.1:Int)),(3,.int .i64 (y.2:Int))]) (fun _=>[(0,51,(ad.mk k o m t n l).row)]) (fun _=>[]) (fun y=>y.1≤l.length∧y.2≤oc l∧max y.2 (oc (l.drop y.1))=oc l) (fun y=>l.length-y.1) ⟨Nat.zero_le _,Nat.zero_le _,by simp⟩ ⟨rfl,rfl,rfl,trivial⟩ ⟨by simp only[ad.ct]; rfl,trivial⟩ trivial ?_
  rintro⟨i,a⟩ ⟨ai,aP,aB⟩
  simp only at ai aP aB ⊢
  simp only[ad.ct]
  cases af:l[i]? with
  |some v=>
   have cK:=(List.getElem?_eq_some_iff.1 af).1
   rw[iM af]at aB
   simp only[oc]at aB
   have d1:(i:Int)<((l.map ad.row).length:Int):=by rw[List.length_map]; omega
   have e:=Fv N v (by have:=ad.lh af; omega) (by omega)
   obtain⟨q,bG⟩: ∃q,q=iL v:=⟨_,rfl⟩
   rw[←bG]at e aB
   rcases v with ⟨eb,ef,ed,eg,ee,ec⟩
   simp(disch:=omega)only[go_sem,simprocAttr]at e
   (have al:=d1;refine bQ ?_;clear al)
   refine D.P (e) ?_
   refine ao ?_
   refine aj.gT (i+1,max a q) ⟨by simp only; omega,by simp only; omega,by simp only; omega⟩ ⟨rfl,by simp only[Int.natCast_add]; rfl,by rw[show ((max a q:Nat):Int)=max (a:Int) (q:Int) by omega]; rfl,trivial⟩ ⟨rfl,trivial⟩ trivial rfl (by simp only[fY,dr,dP,dV,fO,I.cR,b2.bJ,go_sem]<;>rfl) (by show l.length-(i+1)<l.length-i; omega)
  |none=>
   have cM:=List.getElem?_eq_none_iff.1 af
   have bE:i=l.length:=by omega
   subst bE
   have d1: ¬(l.length:Int)<((l.map ad.row).length:Int):=by rw[List.length_map]; omega
   rw[List.drop_length]at aB
   simp only[oc]at aB
   (have al:=d1;refine bQ ?_;clear al)
   refine D.r ?_
   refine⟨_,rfl,.av ?_ rfl,trivial,trivial⟩
   simp only[I.av,I.int.injEq,true_and]
   omega
theorem ax5 (s:a7):Pure Tryz.prog 96 [.str s] (.agg [.int .i64 2,.int .i64 0,.str s]):=by
 refine cF bN Tryz.func96 V9 rfl rfl ?_
 unfold K5 Rv
 simp(disch:=omega)only[go_sem,simprocAttr]
 refine ao ?_
 exact D.rx
theorem Ft: ∀(N:Nat) (x:ad),x.bI≤N→N≤1000000000→Pure Tryz.prog 137 [.agg x.row] (.bool (dB x))
 |0,.mk k o m t n l,h,_=>by simp only[ad.bI]at h; omega
 |N+1,.mk k o m t n l,bW,rO=>by
  simp only[ad.bI]at bW
  have j9:l.length≤1000000000:=by have:=ad.hZ l; omega
  have cv: ∀(i:Nat) (v:ad),l[i]? =some v→Pure Tryz.prog 137 [.agg v.row] (.bool (dB v)):=fun i v af=>Ft N v (by have:=ad.lh af; omega) (by omega)
  simp only[dB,DV]
  have z0:((l.map ad.row).length:Int)=(l.length:Int):=by rw[List.length_map]
  refine cF bN Tryz.func137 Ur (by simp only[b3,I.flat,ad.de,Bool.and_self]) rfl ?_
  unfold JO PS
  simp(disch:=omega)only[go_sem,simprocAttr]
  iterate 4 refine iT ?_
  repeat refine D.cN true false ?_
  refine aj.C5 (X:=Nat×Bool×a7×a7×a7×Int) (fun y=>[(1,.ptr 0 0),(3,.ptr 1 0),(4,.int .i64 (y.1:Int)),(5,.bool y.2.1)]) (fun y=>[(0,51,[.int .i64 k,.str o,.str m,.str t,.int .i64 n,.ay 6 (l.map ad.row)]),(1,51,[.int .i64 k,.str y.2.2.1,.str y.2.2.2.1,.str y.2.2.2.2.1,.int .i64 y.2.2.2.2.2,.aV])]) (fun _=>[]) (fun y=>fL k o m t n l.length=(y.2.1&&(decide (l.length=y.1)&&(decide (y.2.2.1=o)&&(decide (y.2.2.2.1=m)&&(decide (y.2.2.2.2.1=t)&&decide (y.2.2.2.2.2=n))))))) ?_ ?_
  ·rintro⟨c,ok,SW,SH,wt,wn⟩ w8
   simp only at w8 ⊢
   rw[w8]
   clear w8
   cases ok
   ·refine ao ?_
    refine D.r ?_
    exact⟨_,rfl,.av (by simp [I.av, *]) rfl,trivial,trivial⟩
   by_cases aH:l.length=c
   rotate_left
   ·have d0: ¬((l.map ad.row).length:Int)=(c:Int):=by rw[List.length_map]; omega
    (have al:=d0;refine bQ ?_;clear al)
    refine D.r ?_
    exact⟨_,rfl,.av (by simp [I.av, *]) rfl,trivial,trivial⟩
   have d0:((l.map ad.row).length:Int)=(c:Int):=by rw[List.length_map]; omega
   by_cases aq:SW=o
   rotate_left
   ·(have al:=d0;have z2:=aq;refine e8 ?_;clear al z2)
    refine D.r ?_
    exact⟨_,rfl,.av (by simp [I.av, *]) rfl,trivial,trivial⟩
   subst aq
   by_cases hm:SH=m
   rotate_left
   ·(have al:=d0;have z2:=hm;refine e8 ?_;clear al z2)
    refine D.r ?_
    exact⟨_,rfl,.av (by simp [I.av, *]) rfl,trivial,trivial⟩
   subst hm
   by_cases aO:wt=t
   rotate_left
   ·(have al:=d0;have z2:=aO;refine e8 ?_;clear al z2)
    refine D.r ?_
    exact⟨_,rfl,.av (by simp [I.av, *]) rfl,trivial,trivial⟩
   subst aO
   by_cases a6:wn=n
   rotate_left
   ·(have al:=d0;have z2:=a6;refine e8 ?_;clear al z2)
    refine D.r ?_
    exact⟨_,rfl,.av (by simp [I.av, *]) rfl,trivial,trivial⟩
   subst a6
   subst aH
   simp only[decide_true,Bool.true_and]
   (have al:=d0;refine bQ ?_;clear al)
   refine aj.dd (X:=Nat) 0 (fun i=>[(1,.ptr 0 0),(4,.int .i64 (l.length:Int)),(6,.int .i64 (i:Int))]) (fun _=>[(0,51,(ad.mk k SW SH wt wn l).row)]) (fun _=>[]) (fun i=>i≤l.length∧(l.drop i).all dB=l.all dB) (fun i=>l.length-i) ⟨Nat.zero_le _,rfl⟩ ⟨rfl,rfl,rfl,trivial⟩ ⟨by simp only[ad.ct]; rfl,trivial⟩ trivial ?_
   rintro i ⟨ai,aB⟩
   try simp only at ai aB ⊢
   simp only[ad.ct]
   cases af:l[i]? with
   |some v=>
    have cK:=(List.getElem?_eq_some_iff.1 af).1
    have d1:(i:Int)<(l.length:Int):=by omega
    have d2:(i:Int)<((l.map ad.row).length:Int):=by rw[List.length_map]; omega
    have e:=cv i v af
    rw[iM af]at aB
    simp only[List.all_cons]at aB
    generalize dB v=oj at*
    rcases v with ⟨eb,ef,ed,eg,ee,ec⟩
    simp(disch:=omega)only[go_sem,simprocAttr]at e
    (have al:=d1;refine bQ ?_;clear al)
    refine D.P (e) ?_
    cases oj
    ·refine ao ?_
     refine D.r ?_
     exact⟨_,rfl,.av (by rw[←aB]; rfl) rfl,trivial,trivial⟩
    ·refine ao ?_
     refine aj.dK (i+1) ⟨by omega,by simpa using aB⟩ ⟨rfl,rfl,by simp only[Int.natCast_add]; rfl,trivial⟩ ⟨rfl,trivial⟩ trivial rfl rfl (by show l.length-(i+1)<l.length-i; omega)
   |none=>
    have cM:=List.getElem?_eq_none_iff.1 af
    have bE:i=l.length:=by omega
    subst bE
    have d1: ¬(l.length:Int)<(l.length:Int):=by omega
    rw[List.drop_length]at aB
    (have al:=d1;refine bQ ?_;clear al)
    refine D.r ?_
    exact⟨_,rfl,.av (by rw[←aB]; rfl) rfl,trivial,trivial⟩
  ·intro bq
   by_cases J:k=1
   ·subst J
    by_cases aw:0≤n
    ·by_cases aa:n≤1000
     ·(have al:=aw;have z2:=aa;refine fo ?_;refine fo ?_;refine fo ?_;clear al z2)
      refine aj.gV ?_
      refine bq _ _ (0,true,[],[],[],n) (by simp [fL,aw,aa,eq_comm]) ?_ ?_ ?_ rfl rfl
      all_goals first|exact⟨rfl,rfl,rfl,rfl,trivial⟩|exact⟨rfl,rfl,trivial⟩|exact trivial
     ·(have al:=aw;have z2:=aa;refine fo ?_;refine fo ?_;refine fo ?_;clear al z2)
      refine aj.gV ?_
      refine bq _ _ (0,false,[],[],[],n) (by simp [fL,aw,aa]) ?_ ?_ ?_ rfl rfl
      all_goals first|exact⟨rfl,rfl,rfl,rfl,trivial⟩|exact⟨rfl,rfl,trivial⟩|exact trivial
    ·(have al:=aw;refine gA ?_;refine gA ?_;refine gA ?_;clear al)
     refine aj.gV ?_
     refine bq _ _ (0,false,[],[],[],n) (by simp [fL,aw]) ?_ ?_ ?_ rfl rfl
     all_goals first|exact⟨rfl,rfl,rfl,rfl,trivial⟩|exact⟨rfl,rfl,trivial⟩|exact trivial
   by_cases aa:k=2
   ·subst aa
    have ar:=ax5 t
    have ax:=O2 2 0 t
    have aJ:so 2 0 t=lM t:=by simp [so]
    rw[aJ]at ax
    iterate 3 refine iT ?_
    repeat refine D.cN true true ?_
    refine aj.b6 ?_
    refine bK ?_
    refine D.P (ar) ?_
    refine bK ?_
    refine D.P (ax) ?_
    refine bK ?_
    refine aj.gV ?_
    refine bq _ _ (0,lM t,[],[],t,0) (by simp [fL,eq_comm]) ?_ ?_ ?_ rfl rfl
    all_goals first|exact⟨rfl,rfl,rfl,rfl,trivial⟩|exact⟨rfl,rfl,trivial⟩|exact trivial
   by_cases au:k=3
   ·subst au
    have ar:=sg m
    (have al:=J;have z2:=aa;refine fo ?_;refine fo ?_;refine fo ?_;refine fo ?_;clear al z2)
    repeat refine D.cN true true ?_
    refine aj.b6 ?_
    refine bK ?_
    refine D.P (ar) ?_
    refine bK ?_
    refine aj.gV ?_
    refine bq _ _ (0,db m,[],m,[],0) (by simp [fL,eq_comm]) ?_ ?_ ?_ rfl rfl
    all_goals first|exact⟨rfl,rfl,rfl,rfl,trivial⟩|exact⟨rfl,rfl,trivial⟩|exact trivial
   by_cases bn:k=4
   ·subst bn
    iterate 5 refine iT ?_
    refine aj.gV ?_
    refine bq _ _ (1,true,[],[],[],0) (by simp [fL,eq_comm]) ?_ ?_ ?_ rfl rfl
    all_goals first|exact⟨rfl,rfl,rfl,rfl,trivial⟩|exact⟨rfl,rfl,trivial⟩|exact trivial
   by_cases bL:k=5
   ·subst bL
    by_cases cq:o=[45]
    ·subst cq
     iterate 7 refine iT ?_
     refine aj.gV ?_
     refine bq _ _ (1,true,[45],[],[],0) (by simp [fL,eq_comm]) ?_ ?_ ?_ rfl rfl
     all_goals first|exact⟨rfl,rfl,rfl,rfl,trivial⟩|exact⟨rfl,rfl,trivial⟩|exact trivial
    by_cases j0:o=[33]
    ·subst j0
     have d6: ¬([33]:a7)=[45]:=by decide
     (have al:=d6;refine gA ?_;refine gA ?_;refine gA ?_;refine gA ?_;refine gA ?_;refine gA ?_;refine gA ?_;clear al)
     refine aj.gV ?_
     refine bq _ _ (1,true,[33],[],[],0) (by simp [fL,eq_comm]) ?_ ?_ ?_ rfl rfl
     all_goals first|exact⟨rfl,rfl,rfl,rfl,trivial⟩|exact⟨rfl,rfl,trivial⟩|exact trivial
    ·(have al:=cq;have z2:=j0;refine fo ?_;refine fo ?_;refine fo ?_;refine fo ?_;refine fo ?_;refine fo ?_;refine fo ?_;clear al z2)
     refine aj.gV ?_
     refine bq _ _ (1,false,o,[],[],0) (by simp [fL,cq,j0]) ?_ ?_ ?_ rfl rfl
     all_goals first|exact⟨rfl,rfl,rfl,rfl,trivial⟩|exact⟨rfl,rfl,trivial⟩|exact trivial
   by_cases cq:k=6
   ·subst cq
    have ar:=Fw o
    have hp:=(uG o).1
    have rW:(!(decide (cV o=0)))=decide (0<cV o):=by
     by_cases h:cV o=0
     ·simp [h]
     ·have aa:0<cV o:=by omega
      simp [h,aa]
    iterate 7 refine iT ?_
    repeat refine D.cN true true ?_
    refine aj.b6 ?_
    refine bK ?_
    refine D.P (ar) ?_
    refine bK ?_
    refine aj.gV ?_
    refine bq _ _ (2,decide (0<cV o),o,[],[],0) (by simp only[fL,show ¬(6:Int)=1 by decide,show ¬(6:Int)=2 by decide,show ¬(6:Int)=3 by decide,show ¬(6:Int)=4 by decide,show ¬(6:Int)=5 by decide,if_false,if_true,rW]; generalize decide (0<cV o)=b; cases b<;>simp [eq_comm]) ?_ ?_ ?_ rfl rfl
    all_goals first|exact⟨rfl,rfl,rfl,rfl,trivial⟩|exact⟨rfl,rfl,trivial⟩|exact trivial
   (repeat' first|(apply ae.s rfl;(·simp(disch:=omega)only[go_sem,simprocAttr,J,aa,au,bn,bL,cq]<;>with_reducible rfl))|(apply aj.s true true;(·simp(disch:=omega)only[go_sem,simprocAttr,J,aa,au,bn,bL,cq]<;>with_reducible rfl))|apply ae.nil|(refine aj.b6 ?_)|(apply ae.eX;(·simp(disch:=omega)only[go_sem,simprocAttr,J,aa,au,bn,bL,cq]<;>with_reducible rfl))|(apply ae.eY;(·rfl);(·simp(disch:=omega)only[go_sem,simprocAttr,J,aa,au,bn,bL,cq]<;>with_reducible rfl))|(apply ae.gs;(·simp(disch:=omega)only[go_sem,simprocAttr,J,aa,au,bn,bL,cq]<;>with_reducible rfl))|((first|apply ae.e3|apply ae.e4|apply ae.e5);(·simp(disch:=omega)only[go_sem,simprocAttr,J,aa,au,bn,bL,cq]<;>with_reducible rfl);(·simp(disch:=omega)only[go_sem,simprocAttr,J,aa,au,bn,bL,cq]<;>with_reducible rfl);(·assumption);(·omega))|intro h)
   refine D.r ?_
   exact⟨_,rfl,.av (by simp [I.av,fL, *]) rfl,trivial,trivial⟩
end
section
attribute [local go_sem] ad.ct ad.b9 ad.de ac.ct ac.b9 ac.de cj eN fZ gJ dp of_flat cb.row dG mV
def vg (l:List ad) (k:Int):Bool:=l.all (fun x=>dB x&&decide (iL x≤10))&&decide ((l.length:Int)≤k)
theorem Pe (l:List ad) (k:Int) (aP:ad.bB l≤1000000000):Pure Tryz.prog 62 [.ay 6 (l.map ad.row),.int .i64 k] (.bool (vg l k)):=by
 have j9:=ad.hZ l
 have z0:((l.map ad.row).length:Int)=(l.length:Int):=by rw[List.length_map]
 unfold vg
 obtain⟨xH,Mp⟩: ∃xH,xH=(fun x:ad=>dB x&&decide (iL x≤10)):=⟨_,rfl⟩
 rw[←Mp]
 refine cF bN Tryz.func62 V0 (by simp only[b3,I.flat,ad.b9,Bool.and_self]) rfl ?_
 unfold KU Q2
 simp(disch:=omega)only[go_sem,simprocAttr]
 refine ao ?_
 refine aj.dd (X:=Nat) 0 (fun i=>[(0,.ay 6 (l.map ad.row)),(1,.int .i64 k),(5,.int .i64 (i:Int))]) (fun _=>[]) (fun _=>[]) (fun i=>i≤l.length∧(l.drop i).all xH=l.all xH) (fun i=>l.length-i) ⟨Nat.zero_le _,rfl⟩ ⟨rfl,rfl,rfl,trivial⟩ trivial trivial ?_
 rintro i ⟨ai,aB⟩
 try simp only at ai aB ⊢
 cases af:l[i]? with
 |some v=>
  have cK:=(List.getElem?_eq_some_iff.1 af).1
  have d1:(i:Int)<((l.map ad.row).length:Int):=by rw[List.length_map]; omega
  have EE:=ad.pW (List.mem_of_getElem? af)
  have e:=Ft 1000000000 v (by omega) (Nat.le_refl _)
  have ax:=Fv 1000000000 v (by omega) (Nat.le_refl _)
  rw[iM af]at aB
  have aY:xH v=(dB v&&decide (iL v≤10)):=by rw[Mp]
  simp only[List.all_cons,aY]at aB
  clear aY
  generalize dB v=oj at*
  generalize iL v=DK at*
  rcases v with ⟨eb,ef,ed,eg,ee,ec⟩
  simp(disch:=omega)only[go_sem,simprocAttr]at e
  simp(disch:=omega)only[go_sem,simprocAttr]at ax
  (have al:=d1;refine bQ ?_;clear al)
  refine D.P (e) ?_
  cases oj
  ·refine ao ?_
   refine D.r ?_
   exact⟨_,rfl,.av (by rw[←aB]; rfl) rfl,trivial,trivial⟩
  ·refine ao ?_
   refine D.P (ax) ?_
   by_cases bw:DK≤10
   ·have d2: ¬(10:Int)<(DK:Int):=by omega
    (have al:=d2;refine bQ ?_;clear al)
    refine aj.dK (i+1) ⟨by omega,by simpa [bw] using aB⟩ ⟨rfl,rfl,by simp only[Int.natCast_add]; rfl,trivial⟩ trivial trivial rfl rfl (by show l.length-(i+1)<l.length-i; omega)
   ·have d2:(10:Int)<(DK:Int):=by omega
    (have al:=d2;refine bQ ?_;clear al)
    refine D.r ?_
    exact⟨_,rfl,.av (by rw[←aB]; simp [I.av,bw]) rfl,trivial,trivial⟩
 |none=>
  have cM:=List.getElem?_eq_none_iff.1 af
  have bE:i=l.length:=by omega
  subst bE
  have d1: ¬(l.length:Int)<(l.length:Int):=by omega
  rw[List.drop_length]at aB
  simp only[List.all_nil]at aB
  (have al:=d1;have z2:=z0;refine e8 ?_;clear al z2)
  refine D.r ?_
  refine⟨_,rfl,.av ?_ rfl,trivial,trivial⟩
  rw[←aB]
  simp [I.av]
theorem av9 (v:cb):Pure Tryz.prog 59 [.agg v.row] (.bool (iN v)):=by
 obtain⟨h7,hV,cz,ai,ik,n,s⟩:=v
 have ar:=sg h7
 have ax:=O2 ik n s
 obtain⟨G,hG⟩: ∃G,G=iN ⟨h7,hV,cz,ai,ik,n,s⟩:=⟨_,rfl⟩
 rw[←hG]
 simp only[iN]at hG
 refine cF bN Tryz.func59 VA rfl rfl ?_
 unfold KC QZ
 simp(disch:=omega)only[go_sem,simprocAttr]
 by_cases J:cz< -999999
 ·have ah:iX cz=false:=by simp [iX]; omega
  rw[ah,Bool.false_and,Bool.and_false]at hG
  (have al:=J;refine bQ ?_;clear al)
  refine D.r ?_
  exact⟨_,rfl,.av (by rw[hG]; rfl) rfl,trivial,trivial⟩
 by_cases aa:ai< -999999
 ·have ah:iX ai=false:=by simp [iX]; omega
  rw[ah,Bool.false_and,Bool.and_false,Bool.and_false]at hG
  (have al:=J;have z2:=aa;refine e8 ?_;clear al z2)
  refine D.r ?_
  exact⟨_,rfl,.av (by rw[hG]; rfl) rfl,trivial,trivial⟩
 by_cases au:999999<cz
 ·have ah:iX cz=false:=by simp [iX]; omega
  rw[ah,Bool.false_and,Bool.and_false]at hG
  (have al:=J;have z2:=aa;have z3:=au;refine ji ?_;clear al z2 z3)
  refine D.r ?_
  exact⟨_,rfl,.av (by rw[hG]; rfl) rfl,trivial,trivial⟩
 have fa: ¬cz< -999999∧¬ai< -999999∧¬ 999999<cz:=⟨J,aa,au⟩
 by_cases bn:999999<ai
 ·have ah:iX ai=false:=by simp [iX]; omega
  rw[ah,Bool.false_and,Bool.and_false,Bool.and_false]at hG
  (have al:=fa;have z2:=bn;refine e8 ?_;clear al z2)
  refine D.r ?_
  exact⟨_,rfl,.av (by rw[hG]; rfl) rfl,trivial,trivial⟩
 have fa: ¬cz< -999999∧¬ai< -999999∧¬ 999999<cz∧¬ 999999<ai:=⟨J,aa,au,bn⟩
 have c1:iX cz=true:=by simp [iX]; omega
 have c2:iX ai=true:=by simp [iX]; omega
 rw[c1,c2,Bool.true_and,Bool.true_and]at hG
 by_cases bC:hV=1
 ·subst bC
  simp only[decide_true,Bool.true_or,Bool.true_and]at hG
  by_cases i1:ik=1
  ·subst i1
   rw[if_pos rfl]at hG
   by_cases t1:s=[]
   rotate_left
   ·(have al:=fa;have z2:=t1;refine e8 ?_;clear al z2)
    refine D.r ?_
    exact⟨_,rfl,.av (by rw[hG]; simp [I.av,t1]) rfl,trivial,trivial⟩
   subst t1
   by_cases t2: -999999≤n
   rotate_left
   ·(have al:=fa;have z2:=t2;refine e8 ?_;clear al z2)
    refine D.r ?_
    exact⟨_,rfl,.av (by rw[hG]; simp [I.av,iX,t2]) rfl,trivial,trivial⟩
   by_cases t3:n≤999999
   rotate_left
   ·have t4: -999999≤n∧¬n≤999999:=⟨t2,t3⟩
    (have al:=fa;have z2:=t4;refine e8 ?_;clear al z2)
    refine D.r ?_
    exact⟨_,rfl,.av (by rw[hG]; simp [I.av,iX,t3]) rfl,trivial,trivial⟩
   have t4: -999999≤n∧n≤999999:=⟨t2,t3⟩
   (have al:=fa;have z2:=t4;refine e8 ?_;clear al z2)
   refine D.P (ar) ?_
   refine ao ?_
   refine D.r ?_
   exact⟨_,rfl,.av (by rw[hG]; simp [I.av,iX,t2,t3]) rfl,trivial,trivial⟩
  have af:so ik n s=(if ik=2 then decide (n=0)&&lM s else false):=by simp only[so,i1,if_false]
  rw[if_neg i1,←af]at hG
  generalize so ik n s=CF at*
  (have al:=fa;have z2:=i1;refine e8 ?_;clear al z2)
  refine D.P (ax) ?_
  cases CF
  ·refine ao ?_
   refine D.r ?_
   exact⟨_,rfl,.av (by rw[hG]; simp [I.av]) rfl,trivial,trivial⟩
  ·refine ao ?_
   refine D.P (ar) ?_
   refine ao ?_
   refine D.r ?_
   exact⟨_,rfl,.av (by rw[hG]; simp [I.av]) rfl,trivial,trivial⟩
 by_cases bA:hV=2
 rotate_left
 ·rw[decide_eq_false bC,decide_eq_false bA,Bool.false_and,Bool.or_false,Bool.false_and,Bool.and_false]at hG
  (have al:=fa;have z2:=bC;have z3:=bA;refine ji ?_;clear al z2 z3)
  refine D.r ?_
  exact⟨_,rfl,.av (by rw[hG]; rfl) rfl,trivial,trivial⟩
 subst bA
 simp only[show ¬(2:Int)=1 by decide,decide_false,decide_true,Bool.false_or,Bool.true_and]at hG
 by_cases aM:cz<0
 ·have:decide (0≤cz)=false:=by simp; omega
  rw[this,Bool.false_and,Bool.false_and,Bool.and_false]at hG
  (have al:=fa;have z2:=aM;refine e8 ?_;clear al z2)
  refine D.r ?_
  exact⟨_,rfl,.av (by rw[hG]; rfl) rfl,trivial,trivial⟩
 by_cases dZ:ai<0
 ·have:decide (0≤ai)=false:=by simp; omega
  rw[this,Bool.and_false,Bool.false_and,Bool.and_false]at hG
  (have al:=fa;have z2:=aM;have z3:=dZ;refine ji ?_;clear al z2 z3)
  refine D.r ?_
  exact⟨_,rfl,.av (by rw[hG]; rfl) rfl,trivial,trivial⟩
 have cI:decide (0≤cz)=true:=by simp; omega
 have c8:decide (0≤ai)=true:=by simp; omega
 rw[cI,c8,Bool.true_and,Bool.true_and]at hG
 have dX: ¬cz<0∧¬ai<0:=⟨aM,dZ⟩
 by_cases i1:ik=1
 ·subst i1
  rw[if_pos rfl]at hG
  by_cases t1:s=[]
  rotate_left
  ·(have al:=fa;have z2:=dX;have z3:=t1;refine ji ?_;clear al z2 z3)
   refine D.r ?_
   exact⟨_,rfl,.av (by rw[hG]; simp [I.av,t1]) rfl,trivial,trivial⟩
  subst t1
  by_cases t2: -999999≤n
  rotate_left
  ·(have al:=fa;have z2:=dX;have z3:=t2;refine ji ?_;clear al z2 z3)
   refine D.r ?_
   exact⟨_,rfl,.av (by rw[hG]; simp [I.av,iX,t2]) rfl,trivial,trivial⟩
  by_cases t3:n≤999999
  rotate_left
  ·have t4: -999999≤n∧¬n≤999999:=⟨t2,t3⟩
   (have al:=fa;have z2:=dX;have z3:=t4;refine ji ?_;clear al z2 z3)
   refine D.r ?_
   exact⟨_,rfl,.av (by rw[hG]; simp [I.av,iX,t3]) rfl,trivial,trivial⟩
  have t4: -999999≤n∧n≤999999:=⟨t2,t3⟩
  (have al:=fa;have z2:=dX;have z3:=t4;refine ji ?_;clear al z2 z3)
  refine D.P (ar) ?_
  refine ao ?_
  refine D.r ?_
  exact⟨_,rfl,.av (by rw[hG]; simp [I.av,iX,t2,t3]) rfl,trivial,trivial⟩
 have af:so ik n s=(if ik=2 then decide (n=0)&&lM s else false):=by simp only[so,i1,if_false]
 rw[if_neg i1,←af]at hG
 generalize so ik n s=CF at*
 (have al:=fa;have z2:=dX;have z3:=i1;refine ji ?_;clear al z2 z3)
 refine D.P (ax) ?_
 cases CF
 ·refine ao ?_
  refine D.r ?_
  exact⟨_,rfl,.av (by rw[hG]; simp [I.av]) rfl,trivial,trivial⟩
 ·refine ao ?_
  refine D.P (ar) ?_
  refine ao ?_
  refine D.r ?_
  exact⟨_,rfl,.av (by rw[hG]; simp [I.av]) rfl,trivial,trivial⟩
end
section
attribute [local go_sem] ad.ct ad.b9 ad.de ac.ct ac.b9 ac.de cj eN fZ gJ dp of_flat cb.row dG mV
def ph (l:List ac) (d:Nat):Bool:=ho l&&decide (iv l≤d)
def tq (d:Nat) (v:ac):Bool:=hX v&&decide (kh v≤d)
theorem D1 (d:Nat): ∀l,ph l d=l.all (tq d)
 |[]=>by simp [ph,ho,iv]
 |x::l=>by
  rw[List.all_cons,←D1 d l]
  simp only[ph,tq,ho]
  have:decide (iv (x::l)≤d)=(decide (kh x≤d)&&decide (iv l≤d)):=by
   rw[←Bool.decide_and]
   exact decide_eq_decide.2 (by simp only[iv]; omega)
  rw[this]
  cases hX x<;>cases ho l<;>simp
theorem XU (d:Nat) (k:Int) (m:a7) (x:ad) (t:Int) (a b:List ac):tq (d+1) (.mk k m x t a b)=((dB x&&decide (iL x<d+1))&&eu k m t a.length b.length&&(ph a d&&ph b d)):=by
 simp only[tq,hX,ph]
 have:decide (kh (.mk k m x t a b)≤d+1)=(decide (iL x<d+1)&&(decide (iv a≤d)&&decide (iv b≤d))):=by
  rw[←Bool.decide_and,←Bool.decide_and]
  exact decide_eq_decide.2 (by simp only[kh]; omega)
 rw[this]
 cases eu k m t a.length b.length<;>cases dB x<;>cases ho a<;>cases ho b<;>simp
theorem FD: ∀(N:Nat) (l:List ac) (d:Nat),ac.bB l≤N→N≤100000000→d≤1000→Pure Tryz.prog 61 [.ay 11 (l.map ac.row),.int .i64 (d:Int)] (.bool (ph l d))
 |N,l,d,bW,rO,bw=>by
  have j9:=ac.hZ l
  refine cF bN Tryz.func61 VL (by simp only[b3,I.flat,ac.b9,Bool.and_self]) rfl ?_
  unfold KO Q1
  simp(disch:=omega)only[go_sem,simprocAttr]
  by_cases Zb:0<l.length∧d=0
  ·obtain⟨J,rfl⟩:=Zb
   have d1:(0:Int)<((l.map ac.row).length:Int):=by rw[List.length_map]; omega
   have eC:ph l 0=false:=by
    cases l with
    |nil=>simp at J
    |cons x l=>
     rcases x with ⟨k,m,x,t,a,b⟩
     simp [ph,iv,kh]
   (have al:=d1;refine bQ ?_;clear al)
   refine D.r ?_
   exact⟨_,rfl,.av (by rw[eC]; rfl) rfl,trivial,trivial⟩
  have LK: ∃z:Bool,z=false∧((0:Int)<((l.map ac.row).length:Int)→¬(d:Int)=0):=⟨false,rfl,fun h=>by rw[List.length_map]at h; omega⟩
  rw[D1]
  cases xl:l with
  |nil=>
   refine ao ?_
   refine aj.dd (X:=Nat) 0 (fun i=>[(0,.ay 11 []),(1,.int .i64 (d:Int)),(5,.int .i64 (i:Int))]) (fun _=>[]) (fun _=>[]) (fun i=>i=0) (fun i=>0) rfl ⟨rfl,rfl,rfl,trivial⟩ trivial trivial ?_
   rintro i rfl
   refine ao ?_
   exact D.rx
  |cons wo jd=>
  rw[←xl]
  have ZG:0<l.length:=by rw[xl]; simp
  obtain⟨jD,rfl⟩: ∃jD,d=jD+1:=⟨d-1,by omega⟩
  clear xl
  have d1:(0:Int)<((l.map ac.row).length:Int):=by rw[List.length_map]; omega
  have d2: ¬((jD+1:Nat):Int)=0:=by omega
  (have al:=d1;have z2:=d2;refine e8 ?_;clear al z2)
  refine aj.dd (X:=Nat) 0 (fun i=>[(0,.ay 11 (l.map ac.row)),(1,.int .i64 ((jD+1:Nat):Int)),(5,.int .i64 (i:Int))]) (fun _=>[]) (fun _=>[]) (fun i=>i≤l.length∧(l.drop i).all (tq (jD+1))=l.all (tq (jD+1))) (fun i=>l.length-i) ⟨Nat.zero_le _,rfl⟩ ⟨rfl,rfl,rfl,trivial⟩ trivial trivial ?_
  rintro i ⟨ai,aB⟩
  try simp only at ai aB ⊢
  cases af:l[i]? with
  |some v=>
   have cK:=(List.getElem?_eq_some_iff.1 af).1
   have d3:(i:Int)<((l.map ac.row).length:Int):=by rw[List.length_map]; omega
   have EE:=ac.pW (List.mem_of_getElem? af)
   rw[iM af]at aB
   rcases v with ⟨k,m,x,t,a,b⟩
   simp only[ac.bI]at EE
   have ar:=Ft 1000000000 x (by omega) (Nat.le_refl _)
   have ax:=Fv 1000000000 x (by omega) (Nat.le_refl _)
   have mm:=FD (ac.bB a) a jD (Nat.le_refl _) (by omega) (by omega)
   have kG:=FD (ac.bB b) b jD (Nat.le_refl _) (by omega) (by omega)
   rw[List.all_cons,XU]at aB
   have Ea:=AF x
   generalize dB x=wZ at*
   generalize iL x=Af at*
   generalize ph a jD=XL at*
   generalize ph b jD=XN at*
   rcases x with ⟨eb,ef,ed,eg,ee,ec⟩
   simp(disch:=omega)only[go_sem,simprocAttr]at ar
   simp(disch:=omega)only[go_sem,simprocAttr]at ax
   have al:((jD+1:Nat):Int)-1=(jD:Int):=by omega
   (have al:=d3;refine gA ?_;refine gA ?_;clear al)
   refine aj.aD8 (X:=Bool) (fun y=>[(0,.ay 11 (l.map ac.row)),(1,.int .i64 ((jD+1:Nat):Int)),(5,.int .i64 (i:Int)),(6,.ptr 0 0),(7,.bool y)]) (fun _=>[(0,165,[.int .i64 k,.str m,.int .i64 eb,.str ef,.str ed,.str eg,.int .i64 ee,.ay 6 (ec.map ad.row),.int .i64 t,.ay 11 (a.map ac.row),.ay 11 (b.map ac.row)])]) (fun _=>[]) (fun y=>y=(wZ&&decide (Af<jD+1))) ?_ ?_
   rotate_left
   ·intro bq
    repeat refine D.cN true true ?_
    refine aj.b6 ?_
    refine bK ?_
    refine D.P (ar) ?_
    cases wZ
    ·refine bK ?_
     refine bq _ _ false (by simp) ?_ ?_ ?_ rfl rfl
     all_goals first|exact⟨rfl,rfl,rfl,rfl,rfl,trivial⟩|exact⟨rfl,trivial⟩|exact trivial
    ·refine bK ?_
     refine D.P (ax) ?_
     by_cases ab:Af<jD+1
     ·have z:(Af:Int)<((jD+1:Nat):Int):=by omega
      (have al:=z;refine rj ?_;clear al)
      refine bq _ _ true (by simp [ab]) ?_ ?_ ?_ rfl rfl
      all_goals first|exact⟨rfl,rfl,rfl,rfl,rfl,trivial⟩|exact⟨rfl,trivial⟩|exact trivial
     ·have z: ¬(Af:Int)<((jD+1:Nat):Int):=by omega
      (have al:=z;refine rj ?_;clear al)
      refine bq _ _ false (by simp [ab]) ?_ ?_ ?_ rfl rfl
      all_goals first|exact⟨rfl,rfl,rfl,rfl,rfl,trivial⟩|exact⟨rfl,trivial⟩|exact trivial
   ·rintro B dX
    try simp only at dX ⊢
    rw[←dX]at aB
    clear dX
    iterate 1 refine iT ?_
    repeat refine D.cN true false ?_
    refine aj.C5 (X:=Bool) (fun y=>[(0,.ay 11 (l.map ac.row)),(1,.int .i64 ((jD+1:Nat):Int)),(5,.int .i64 (i:Int)),(6,.ptr 0 0),(7,.bool y)]) (fun _=>[(0,165,[.int .i64 k,.str m,.int .i64 eb,.str ef,.str ed,.str eg,.int .i64 ee,.ay 6 (ec.map ad.row),.int .i64 t,.ay 11 (a.map ac.row),.ay 11 (b.map ac.row)])]) (fun _=>[]) (fun y=>y=(B&&eu k m t a.length b.length)) ?_ ?_
    ·rintro C hC
     try simp only at hC ⊢
     rw[←hC]at aB
     clear hC
     cases C
     ·refine ao ?_
      refine D.r ?_
      exact⟨_,rfl,.av (by rw[←aB]; rfl) rfl,trivial,trivial⟩
     ·(have al:=al;refine bQ ?_;clear al)
      refine D.P (mm) ?_
      cases XL
      ·refine ao ?_
       refine D.r ?_
       exact⟨_,rfl,.av (by rw[←aB]; rfl) rfl,trivial,trivial⟩
      ·(have al:=al;refine bQ ?_;clear al)
       refine D.P (kG) ?_
       cases XN
       ·refine ao ?_
        refine D.r ?_
        exact⟨_,rfl,.av (by rw[←aB]; rfl) rfl,trivial,trivial⟩
       ·refine ao ?_
        refine aj.gT (i+1) ⟨by omega,by simpa using aB⟩ ⟨rfl,rfl,by simp only[Int.natCast_add]; rfl,trivial⟩ trivial trivial rfl (by simp only[fY,dr,dP,dV,fO,I.cR,b2.bJ,ac.b9,go_sem]<;>rfl) (by show l.length-(i+1)<l.length-i; omega)
    ·intro bq
     by_cases bC:k=1
     ·subst bC
      cases B
      ·iterate 2 refine iT ?_
       refine aj.gV ?_
       refine bq _ _ false (by simp) ?_ ?_ ?_ rfl rfl
       all_goals first|exact⟨rfl,rfl,rfl,rfl,rfl,trivial⟩|exact⟨rfl,trivial⟩|exact trivial
      ·iterate 1 refine iT ?_
       repeat refine D.cN true true ?_
       refine aj.b6 ?_
       refine bK ?_
       refine D.P (sg m) ?_
       cases hw:db m
       ·refine bK ?_
        refine aj.gV ?_
        refine bq _ _ false (by simp [eu,hw]) ?_ ?_ ?_ rfl rfl
        all_goals first|exact⟨rfl,rfl,rfl,rfl,rfl,trivial⟩|exact⟨rfl,trivial⟩|exact trivial
       by_cases t0:t=0
       rotate_left
       ·(have al:=t0;refine rj ?_;clear al)
        refine aj.gV ?_
        refine bq _ _ false (by simp [eu,t0]) ?_ ?_ ?_ rfl rfl
        all_goals first|exact⟨rfl,rfl,rfl,rfl,rfl,trivial⟩|exact⟨rfl,trivial⟩|exact trivial
       subst t0
       by_cases a0:a.length=0
       rotate_left
       ·have z2: ¬((a.map ac.row).length:Int)=0:=by rw[List.length_map]; omega
        (have al:=z2;refine rj ?_;clear al)
        refine aj.gV ?_
        refine bq _ _ false (by simp only[eu,a0,if_true,decide_false,Bool.false_and,Bool.and_false]) ?_ ?_ ?_ rfl rfl
        all_goals first|exact⟨rfl,rfl,rfl,rfl,rfl,trivial⟩|exact⟨rfl,trivial⟩|exact trivial
       have z2:((a.map ac.row).length:Int)=0:=by rw[List.length_map]; omega
       by_cases hi:b.length=0
       rotate_left
       ·have z3: ¬((b.map ac.row).length:Int)=0:=by rw[List.length_map]; omega
        (have al:=z2;have z2:=z3;refine GX ?_;clear al z2)
        refine aj.gV ?_
        refine bq _ _ false (by simp only[eu,hi,if_true,decide_false,Bool.false_and,Bool.and_false]) ?_ ?_ ?_ rfl rfl
        all_goals first|exact⟨rfl,rfl,rfl,rfl,rfl,trivial⟩|exact⟨rfl,trivial⟩|exact trivial
       have z3:((b.map ac.row).length:Int)=0:=by rw[List.length_map]; omega
       (have al:=z2;have z2:=z3;refine GX ?_;clear al z2)
       refine aj.gV ?_
       refine bq _ _ true (by simp [eu,a0,hi,hw]) ?_ ?_ ?_ rfl rfl
       all_goals first|exact⟨rfl,rfl,rfl,rfl,rfl,trivial⟩|exact⟨rfl,trivial⟩|exact trivial
     by_cases bA:k=2
     ·subst bA
      cases B
      ·iterate 3 refine iT ?_
       refine aj.gV ?_
       refine bq _ _ false (by simp) ?_ ?_ ?_ rfl rfl
       all_goals first|exact⟨rfl,rfl,rfl,rfl,rfl,trivial⟩|exact⟨rfl,trivial⟩|exact trivial
      by_cases m0:m=[]
      rotate_left
      ·(have al:=m0;refine gA ?_;refine gA ?_;refine gA ?_;clear al)
       refine aj.gV ?_
       refine bq _ _ false (by simp [eu,m0]) ?_ ?_ ?_ rfl rfl
       all_goals first|exact⟨rfl,rfl,rfl,rfl,rfl,trivial⟩|exact⟨rfl,trivial⟩|exact trivial
      subst m0
      by_cases t0:t=0
      rotate_left
      ·(have al:=t0;refine gA ?_;refine gA ?_;refine gA ?_;clear al)
       refine aj.gV ?_
       refine bq _ _ false (by simp [eu,t0]) ?_ ?_ ?_ rfl rfl
       all_goals first|exact⟨rfl,rfl,rfl,rfl,rfl,trivial⟩|exact⟨rfl,trivial⟩|exact trivial
      ·subst t0
       iterate 3 refine iT ?_
       refine aj.gV ?_
       refine bq _ _ true (by simp [eu]) ?_ ?_ ?_ rfl rfl
       all_goals first|exact⟨rfl,rfl,rfl,rfl,rfl,trivial⟩|exact⟨rfl,trivial⟩|exact trivial
     by_cases cO:k=3
     ·subst cO
      cases B
      ·iterate 4 refine iT ?_
       refine aj.gV ?_
       refine bq _ _ false (by simp) ?_ ?_ ?_ rfl rfl
       all_goals first|exact⟨rfl,rfl,rfl,rfl,rfl,trivial⟩|exact⟨rfl,trivial⟩|exact trivial
      by_cases m0:m=[]
      rotate_left
      ·(have al:=m0;refine gA ?_;refine gA ?_;refine gA ?_;refine gA ?_;clear al)
       refine aj.gV ?_
       refine bq _ _ false (by simp [eu,m0]) ?_ ?_ ?_ rfl rfl
       all_goals first|exact⟨rfl,rfl,rfl,rfl,rfl,trivial⟩|exact⟨rfl,trivial⟩|exact trivial
      subst m0
      by_cases t1:1≤t
      rotate_left
      ·(have al:=t1;refine gA ?_;refine gA ?_;refine gA ?_;refine gA ?_;clear al)
       refine aj.gV ?_
       refine bq _ _ false (by simp [eu,t1]) ?_ ?_ ?_ rfl rfl
       all_goals first|exact⟨rfl,rfl,rfl,rfl,rfl,trivial⟩|exact⟨rfl,trivial⟩|exact trivial
      by_cases t2:t≤50
      rotate_left
      ·(have al:=t1;have z2:=t2;refine fo ?_;refine fo ?_;refine fo ?_;refine fo ?_;clear al z2)
       refine aj.gV ?_
       refine bq _ _ false (by simp [eu,t2]) ?_ ?_ ?_ rfl rfl
       all_goals first|exact⟨rfl,rfl,rfl,rfl,rfl,trivial⟩|exact⟨rfl,trivial⟩|exact trivial
      have Bq:1≤t∧t≤50:=⟨t1,t2⟩
      by_cases hi:b.length=0
      rotate_left
      ·have z3: ¬((b.map ac.row).length:Int)=0:=by rw[List.length_map]; omega
       (have al:=Bq;have z2:=z3;refine fo ?_;refine fo ?_;refine fo ?_;refine fo ?_;clear al z2)
       refine aj.gV ?_
       refine bq _ _ false (by simp only[eu,show ¬(3:Int)=1 by decide,show ¬(3:Int)=2 by decide,hi,if_true,if_false,decide_false,Bool.false_and,Bool.and_false]) ?_ ?_ ?_ rfl rfl
       all_goals first|exact⟨rfl,rfl,rfl,rfl,rfl,trivial⟩|exact⟨rfl,trivial⟩|exact trivial
      ·have z3:((b.map ac.row).length:Int)=0:=by rw[List.length_map]; omega
       (have al:=Bq;have z2:=z3;refine fo ?_;refine fo ?_;refine fo ?_;refine fo ?_;clear al z2)
       refine aj.gV ?_
       refine bq _ _ true (by simp only[eu,show ¬(3:Int)=1 by decide,show ¬(3:Int)=2 by decide,hi,t1,t2,if_true,if_false,decide_true,Bool.true_and]) ?_ ?_ ?_ rfl rfl
       all_goals first|exact⟨rfl,rfl,rfl,rfl,rfl,trivial⟩|exact⟨rfl,trivial⟩|exact trivial
     have bh:eu k m t a.length b.length=false:=by simp only[eu,bC,bA,cO,if_false]
     rw[bh,Bool.and_false,Bool.false_and,Bool.false_and]at aB
     (have al:=bC;have z2:=bA;have z3:=cO;refine ji ?_;clear al z2 z3)
     refine D.r ?_
     exact⟨_,rfl,.av (by rw[←aB]; rfl) rfl,trivial,trivial⟩
  |none=>
   have cM:=List.getElem?_eq_none_iff.1 af
   have bE:i=l.length:=by omega
   subst bE
   have d3: ¬(l.length:Int)<((l.map ac.row).length:Int):=by rw[List.length_map]; omega
   rw[List.drop_length]at aB
   (have al:=d3;refine bQ ?_;clear al)
   refine D.r ?_
   exact⟨_,rfl,.av (by rw[←aB]; rfl) rfl,trivial,trivial⟩
 termination_by N l d=>ac.bB l
 decreasing_by all_goals (simp only[ac.bI]at*; omega)
end
section
attribute [local go_sem] ad.ct ad.b9 ad.de ac.ct ac.b9 ac.de cj eN fZ gJ dp of_flat cb.row dG mV
theorem X9 (h:cd):jZ h=((kR h.eK&&(db h.peer&&(decide (h.ps.length≤4)&&ph h.body 10)))&&h.ps.all db):=by
 have:(h.body.all hX&&h.body.all (fun x=>decide (kh x≤10)))=ph h.body 10:=by
  rw[D1]
  have: ∀l:List ac,(l.all hX&&l.all (fun x=>decide (kh x≤10)))=l.all (tq 10):=by
   intro l
   induction l with
   |nil=>rfl
   |cons x l cv=>
    rw[List.all_cons,List.all_cons,List.all_cons,←cv]
    simp only[tq]
    cases hX x<;>cases l.all hX<;>simp
  exact this _
 simp only[jZ,this]
 cases kR h.eK<;>cases db h.peer<;>cases decide (h.ps.length≤4)<;>cases h.ps.all db<;>simp
theorem Yn (o:ca):j6 o=(kR o.eK&&(db o.peer&&(vg o.args 4&&vg o.dT 1))):=by
 have fa: ∀l:List ad,(l.all dB&&l.all (fun x=>decide (iL x≤10)))=l.all (fun x=>dB x&&decide (iL x≤10)):=by
  intro l
  induction l with
  |nil=>rfl
  |cons x l cv=>
   rw[List.all_cons,List.all_cons,List.all_cons,←cv]
   cases dB x<;>cases l.all dB<;>simp
 have d1:decide ((o.args.length:Int)≤4)=decide (o.args.length≤4):=decide_eq_decide.2 (by omega)
 have d2:decide ((o.dT.length:Int)≤1)=decide (o.dT.length≤1):=decide_eq_decide.2 (by omega)
 simp only[j6,vg,d1,d2,←fa,List.all_append]
 generalize (o.args.all fun x=>decide (iL x≤10))=g1
 generalize (o.dT.all fun x=>decide (iL x≤10))=g2
 cases kR o.eK<;>cases db o.peer<;>cases decide (o.args.length≤4)<;>cases decide (o.dT.length≤1)<;>cases o.args.all dB<;>cases o.dT.all dB<;>cases g1<;>simp
theorem O4 (x:e9) (hb:oI x) (pR: ∀h∈x.ap,h.eK.length≤1000000000000000) (rW: ∀o∈x.os,o.eK.length≤1000000000000000):Pure Tryz.prog 21 [x.ir] (.bool (kJ x)):=by
 have ar:=sg x.name
 have ax:=sg x.hD
 have cw:=sg x.hA
 have Em:=hb.nS
 have Ek:=hb.nh
 have ck:=hb.no
 obtain⟨G,hG⟩: ∃G,G=kJ x:=⟨_,rfl⟩
 have nE:kJ x=(qX x&&(py x&&decide ((iK x).length≤8000))):=rfl
 rw[←hG]
 rw[nE]at hG
 have ww:qX x=true→py x=true→Pure Tryz.prog 57 [x.ir] (.str (iK x)):=fun J aa=>O5 x (Cv hb J aa)
 have n0:qX x=(db x.name&&(db x.hD&&(db x.hA&&(decide (x.vars.length≤12)&&(decide (x.ap.length≤40)&&decide (x.os.length≤40)))))):=rfl
 have pi:py x=(x.vars.all iN&&(x.ap.all jZ&&x.os.all j6)):=rfl
 rw[lq]at ww ⊢
 obtain⟨C,hC⟩: ∃C,C=iK x:=⟨_,rfl⟩
 rw[←hC]at hG ww
 refine cF bN Tryz.func21 Vb (by simp only[b3,I.flat,dG,dp,of_flat,Bool.and_self]) rfl ?_
 unfold vf QC
 simp(disch:=omega)only[go_sem,simprocAttr]
 refine ao ?_
 refine D.P (ar) ?_
 cases pn:db x.name
 ·rw[pn,Bool.false_and]at n0
  rw[n0,Bool.false_and]at hG
  refine ao ?_
  refine D.r ?_
  exact⟨_,rfl,.av (by rw[hG]; rfl) rfl,trivial,trivial⟩
 refine ao ?_
 refine D.P (ax) ?_
 cases mc:db x.hD
 ·rw[pn,mc,Bool.false_and,Bool.and_false]at n0
  rw[n0,Bool.false_and]at hG
  refine ao ?_
  refine D.r ?_
  exact⟨_,rfl,.av (by rw[hG]; rfl) rfl,trivial,trivial⟩
 refine ao ?_
 refine D.P (cw) ?_
 cases sp:db x.hA
 ·rw[pn,mc,sp,Bool.false_and,Bool.and_false,Bool.and_false]at n0
  rw[n0,Bool.false_and]at hG
  refine ao ?_
  refine D.r ?_
  exact⟨_,rfl,.av (by rw[hG]; rfl) rfl,trivial,trivial⟩
 rw[pn,mc,sp,Bool.true_and,Bool.true_and,Bool.true_and]at n0
 by_cases v1:x.vars.length≤12
 rotate_left
 ·have al:(12:Int)<((x.vars.map cb.row).length:Int):=by rw[List.length_map]; omega
  rw[decide_eq_false v1,Bool.false_and]at n0
  rw[n0,Bool.false_and]at hG
  (have al:=al;refine bQ ?_;clear al)
  refine D.r ?_
  exact⟨_,rfl,.av (by rw[hG]; rfl) rfl,trivial,trivial⟩
 have al: ¬(12:Int)<((x.vars.map cb.row).length:Int):=by rw[List.length_map]; omega
 by_cases v2:x.ap.length≤40
 rotate_left
 ·have z2:(40:Int)<((x.ap.map cd.row).length:Int):=by rw[List.length_map]; omega
  rw[decide_eq_false v2,Bool.false_and,Bool.and_false]at n0
  rw[n0,Bool.false_and]at hG
  (have al:=al;have z2:=z2;refine e8 ?_;clear al z2)
  refine D.r ?_
  exact⟨_,rfl,.av (by rw[hG]; rfl) rfl,trivial,trivial⟩
 have z2: ¬(40:Int)<((x.ap.map cd.row).length:Int):=by rw[List.length_map]; omega
 by_cases v3:x.os.length≤40
 rotate_left
 ·have z3:(40:Int)<((x.os.map ca.row).length:Int):=by rw[List.length_map]; omega
  rw[decide_eq_false v3,Bool.and_false,Bool.and_false]at n0
  rw[n0,Bool.false_and]at hG
  (have al:=al;have z2:=z2;have z3:=z3;refine ji ?_;clear al z2 z3)
  refine D.r ?_
  exact⟨_,rfl,.av (by rw[hG]; rfl) rfl,trivial,trivial⟩
 have z3: ¬(40:Int)<((x.os.map ca.row).length:Int):=by rw[List.length_map]; omega
 rw[decide_eq_true v1,decide_eq_true v2,decide_eq_true v3,Bool.true_and,Bool.true_and]at n0
 rw[n0,Bool.true_and]at hG
 (have al:=al;have z2:=z2;have z3:=z3;refine ji ?_;clear al z2 z3)
 refine aj.dd (X:=Nat) 0 (fun i=>[(1,.ptr 0 0),(3,.int .i64 (i:Int))]) (fun _=>[(0,35,x.cells)]) (fun _=>[]) (fun i=>i≤x.vars.length∧(x.vars.drop i).all iN=x.vars.all iN) (fun i=>x.vars.length-i) ⟨Nat.zero_le _,rfl⟩ ⟨rfl,rfl,trivial⟩ ⟨by simp only[fG]; rfl,trivial⟩ trivial ?_
 rintro i ⟨ai,aB⟩
 try simp only at ai aB ⊢
 simp only[fG]
 cases af:x.vars[i]? with
 |some v=>
  have cK:=(List.getElem?_eq_some_iff.1 af).1
  have d1:(i:Int)<((x.vars.map cb.row).length:Int):=by rw[List.length_map]; omega
  have e:=av9 v
  rw[iM af]at aB
  simp only[List.all_cons]at aB
  generalize iN v=oj at*
  rcases v with ⟨h7,hV,cz,gB,ik,n,s⟩
  simp only[cb.row]at e
  (have al:=d1;refine bQ ?_;clear al)
  refine D.P (e) ?_
  cases oj
  ·rw[Bool.false_and]at aB
   rw[pi,←aB,Bool.false_and,Bool.false_and]at hG
   refine ao ?_
   refine D.r ?_
   exact⟨_,rfl,.av (by rw[hG]; rfl) rfl,trivial,trivial⟩
  ·refine ao ?_
   refine aj.dK (i+1) ⟨by omega,by simpa using aB⟩ ⟨rfl,by simp only[Int.natCast_add]; rfl,trivial⟩ ⟨rfl,trivial⟩ trivial rfl rfl (by show x.vars.length-(i+1)<x.vars.length-i; omega)
 |none=>
 have cM:=List.getElem?_eq_none_iff.1 af
 have bE:i=x.vars.length:=by omega
 subst bE
 have d1: ¬(x.vars.length:Int)<((x.vars.map cb.row).length:Int):=by rw[List.length_map]; omega
 rw[List.drop_length]at aB
 have YR:x.vars.all iN=true:=aB.symm
 clear aB af cM ai
 rw[YR,Bool.true_and]at pi
 (have al:=d1;refine bQ ?_;clear al)
 refine aj.dd (X:=Nat) 0 (fun i=>[(1,.ptr 0 0),(4,.int .i64 (i:Int))]) (fun _=>[(0,35,x.cells)]) (fun _=>[]) (fun i=>i≤x.ap.length∧(x.ap.drop i).all jZ=x.ap.all jZ) (fun i=>x.ap.length-i) ⟨Nat.zero_le _,rfl⟩ ⟨rfl,rfl,trivial⟩ ⟨by simp only[fG]; rfl,trivial⟩ trivial ?_
 rintro i ⟨ai,aB⟩
 try simp only at ai aB ⊢
 simp only[fG]
 cases af:x.ap[i]? with
 |some v=>
  have cK:=(List.getElem?_eq_some_iff.1 af).1
  have gN:=List.mem_of_getElem? af
  have d2:(i:Int)<((x.ap.map cd.row).length:Int):=by rw[List.length_map]; omega
  have LO:=hb.aP v gN
  have Bg:=hb.hp v gN
  have fR:=O9 v.eK (pR v gN)
  have il:=sg v.peer
  have gl:=FD 10000 v.body 10 LO (by omega) (by omega)
  rw[iM af]at aB
  rw[List.all_cons,X9]at aB
  rcases v with ⟨eK,peer,ps,body⟩
  simp only at fR il gl Bg aB
  generalize kR eK=eB at*
  generalize db peer=dU at*
  generalize ph body 10=jj at*
  (have al:=d2;refine bQ ?_;clear al)
  refine D.P (fR) ?_
  cases eB
  ·rw[Bool.false_and,Bool.false_and]at aB
   rw[Bool.false_and]at aB
   rw[pi,←aB,Bool.false_and,Bool.false_and]at hG
   refine ao ?_
   refine D.r ?_
   exact⟨_,rfl,.av (by rw[hG]; rfl) rfl,trivial,trivial⟩
  refine ao ?_
  refine D.P (il) ?_
  cases dU
  ·rw[Bool.false_and,Bool.and_false,Bool.false_and]at aB
   rw[Bool.false_and]at aB
   rw[pi,←aB,Bool.false_and,Bool.false_and]at hG
   refine ao ?_
   refine D.r ?_
   exact⟨_,rfl,.av (by rw[hG]; rfl) rfl,trivial,trivial⟩
  by_cases BF:ps.length≤4
  rotate_left
  ·have qa:(4:Int)<((ps.map cj).length:Int):=by rw[List.length_map]; omega
   rw[decide_eq_false BF,Bool.false_and,Bool.and_false,Bool.and_false,Bool.false_and,Bool.false_and]at aB
   rw[pi,←aB,Bool.false_and,Bool.false_and]at hG
   (have al:=qa;refine bQ ?_;clear al)
   refine D.r ?_
   exact⟨_,rfl,.av (by rw[hG]; rfl) rfl,trivial,trivial⟩
  have qa: ¬(4:Int)<((ps.map cj).length:Int):=by rw[List.length_map]; omega
  (have al:=qa;refine bQ ?_;clear al)
  refine D.P (gl) ?_
  cases jj
  ·rw[Bool.and_false,Bool.and_false,Bool.and_false,Bool.false_and]at aB
   rw[Bool.false_and]at aB
   rw[pi,←aB,Bool.false_and,Bool.false_and]at hG
   refine ao ?_
   refine D.r ?_
   exact⟨_,rfl,.av (by rw[hG]; rfl) rfl,trivial,trivial⟩
  rw[decide_eq_true BF,Bool.true_and,Bool.true_and,Bool.true_and,Bool.true_and]at aB
  refine ao ?_
  refine aj.dd (X:=Nat) 0 (fun j=>[(1,.ptr 0 0),(5,.ptr 1 0),(4,.int .i64 (i:Int)),(6,.int .i64 (j:Int))]) (fun _=>[(1,99,(cd.mk eK peer ps body).row),(0,35,x.cells)]) (fun _=>[]) (fun j=>j≤ps.length∧(ps.drop j).all db=ps.all db) (fun j=>ps.length-j) ⟨Nat.zero_le _,rfl⟩ ⟨rfl,rfl,rfl,rfl,trivial⟩ ⟨by simp only[fZ]; rfl,by simp only[fG]; rfl,trivial⟩ trivial ?_
  rintro j ⟨bq,hw⟩
  try simp only at bq hw ⊢
  simp only[fG,fZ]
  cases ab:ps[j]? with
  |some s=>
   have ZU:=(List.getElem?_eq_some_iff.1 ab).1
   have d3:(j:Int)<((ps.map cj).length:Int):=by rw[List.length_map]; omega
   have mB:=sg s
   rw[iM ab,List.all_cons]at hw
   generalize db s=pC at*
   (have al:=d3;refine bQ ?_;clear al)
   refine D.P (mB) ?_
   cases pC
   ·rw[Bool.false_and]at hw
    rw[←hw,Bool.false_and]at aB
    rw[pi,←aB,Bool.false_and,Bool.false_and]at hG
    refine ao ?_
    refine D.r ?_
    exact⟨_,rfl,.av (by rw[hG]; rfl) rfl,trivial,trivial⟩
   ·refine ao ?_
    refine aj.dK (j+1) ⟨by omega,by simpa using hw⟩ ⟨rfl,rfl,rfl,by simp only[Int.natCast_add]; rfl,trivial⟩ ⟨rfl,rfl,trivial⟩ trivial rfl rfl (by show ps.length-(j+1)<ps.length-j; omega)
  |none=>
   have cM:=List.getElem?_eq_none_iff.1 ab
   have bE:j=ps.length:=by omega
   subst bE
   have d3: ¬(ps.length:Int)<((ps.map cj).length:Int):=by rw[List.length_map]; omega
   rw[List.drop_length]at hw
   rw[←hw]at aB
   (have al:=d3;refine bQ ?_;clear al)
   refine aj.gT (i+1) ⟨by omega,by simpa using aB⟩ ⟨rfl,by simp only[Int.natCast_add]; rfl,trivial⟩ ⟨rfl,trivial⟩ trivial rfl (by simp only[fY,dr,dP,dV,fO,I.cR,b2.bJ,fG,dG,dp,of_flat,go_sem]<;>rfl) (by show x.ap.length-(i+1)<x.ap.length-i; omega)
 |none=>
 have cM:=List.getElem?_eq_none_iff.1 af
 have bE:i=x.ap.length:=by omega
 subst bE
 have d1: ¬(x.ap.length:Int)<((x.ap.map cd.row).length:Int):=by rw[List.length_map]; omega
 rw[List.drop_length]at aB
 have YC:x.ap.all jZ=true:=aB.symm
 clear aB af cM ai
 rw[YC,Bool.true_and]at pi
 (have al:=d1;refine bQ ?_;clear al)
 refine aj.dd (X:=Nat) 0 (fun i=>[(1,.ptr 0 0),(7,.int .i64 (i:Int))]) (fun _=>[(0,35,x.cells)]) (fun _=>[]) (fun i=>i≤x.os.length∧(x.os.drop i).all j6=x.os.all j6) (fun i=>x.os.length-i) ⟨Nat.zero_le _,rfl⟩ ⟨rfl,rfl,trivial⟩ ⟨by simp only[fG]; rfl,trivial⟩ trivial ?_
 rintro i ⟨ai,aB⟩
 try simp only at ai aB ⊢
 simp only[fG]
 cases af:x.os[i]? with
 |some v=>
  have cK:=(List.getElem?_eq_some_iff.1 af).1
  have gN:=List.mem_of_getElem? af
  have d2:(i:Int)<((x.os.map ca.row).length:Int):=by rw[List.length_map]; omega
  have LO:=hb.o6 v gN
  have fR:=O9 v.eK (rW v gN)
  have il:=sg v.peer
  have gl:=Pe v.args 4 (by omega)
  have mB:=Pe v.dT 1 (by omega)
  rw[iM af]at aB
  rw[List.all_cons,Yn]at aB
  rcases v with ⟨eK,peer,args,dT⟩
  simp only at fR il gl mB aB
  generalize kR eK=eB at*
  generalize db peer=dU at*
  generalize vg args 4=jj at*
  generalize vg dT 1=kD at*
  (have al:=d2;refine bQ ?_;clear al)
  refine D.P (fR) ?_
  cases eB
  ·rw[Bool.false_and,Bool.false_and]at aB
   rw[pi,←aB,Bool.false_and]at hG
   refine ao ?_
   refine D.r ?_
   exact⟨_,rfl,.av (by rw[hG]; rfl) rfl,trivial,trivial⟩
  refine ao ?_
  refine D.P (il) ?_
  cases dU
  ·rw[Bool.false_and,Bool.and_false,Bool.false_and]at aB
   rw[pi,←aB,Bool.false_and]at hG
   refine ao ?_
   refine D.r ?_
   exact⟨_,rfl,.av (by rw[hG]; rfl) rfl,trivial,trivial⟩
  refine ao ?_
  refine D.P (gl) ?_
  cases jj
  ·rw[Bool.false_and,Bool.and_false,Bool.and_false,Bool.false_and]at aB
   rw[pi,←aB,Bool.false_and]at hG
   refine ao ?_
   refine D.r ?_
   exact⟨_,rfl,.av (by rw[hG]; rfl) rfl,trivial,trivial⟩
  refine ao ?_
  refine D.P (mB) ?_
  cases kD
  ·rw[Bool.and_false,Bool.and_false,Bool.and_false,Bool.false_and]at aB
   rw[pi,←aB,Bool.false_and]at hG
   refine ao ?_
   refine D.r ?_
   exact⟨_,rfl,.av (by rw[hG]; rfl) rfl,trivial,trivial⟩
  rw[Bool.true_and,Bool.true_and,Bool.true_and,Bool.true_and]at aB
  refine ao ?_
  refine aj.gT (i+1) ⟨by omega,aB⟩ ⟨rfl,by simp only[Int.natCast_add]; rfl,trivial⟩ ⟨rfl,trivial⟩ trivial rfl (by simp only[fY,dr,dP,dV,fO,I.cR,b2.bJ,fG,dG,dp,of_flat,go_sem]<;>rfl) (by show x.os.length-(i+1)<x.os.length-i; omega)
 |none=>
 have cM:=List.getElem?_eq_none_iff.1 af
 have bE:i=x.os.length:=by omega
 subst bE
 have d1: ¬(x.os.length:Int)<((x.os.map ca.row).length:Int):=by rw[List.length_map]; omega
 rw[List.drop_length]at aB
 rw[←aB]at pi
 have LH:py x=true:=pi
 have EX:=ww n0 LH
 rw[LH,Bool.true_and]at hG
 (have al:=d1;refine bQ ?_;clear al)
 refine D.P (EX) ?_
 refine ao ?_
 refine D.r ?_
 refine⟨_,rfl,.av ?_ rfl,trivial,trivial⟩
 rw[hG]
 simp only[I.av,I.bool.injEq]
 exact decide_eq_decide.2 (by omega)
theorem au3 (x:e9) (hb:oI x) (pR: ∀h∈x.ap,h.eK.length≤1000000000000000) (rW: ∀o∈x.os,o.eK.length≤1000000000000000):Pure Tryz.prog 20 [x.ir] (xC x):=by
 have ar:=O4 x hb pR rW
 have ax:kJ x=true→Pure Tryz.prog 57 [x.ir] (.str (iK x)):=fun h=>by
  simp only[kJ,Bool.and_eq_true]at h
  exact O5 x (Cv hb h.1 h.2.1)
 have nE:xC x=if kJ x=true then .di [.str (iK x),.int .i64 0] else .di [.str [],.int .i64 1]:=rfl
 rw[nE]
 rw[lq]at ar ax ⊢
 generalize iK x=C at*
 generalize kJ x=g at*
 cases g
 ·rw[if_neg (by decide)]
  refine cF bN Tryz.func20 HK (by simp only[b3,I.flat,dG,dp,of_flat,Bool.and_self]) rfl ?_
  unfold vd FL
  simp(disch:=omega)only[go_sem,simprocAttr]
  refine ao ?_
  refine D.P (ar) ?_
  refine ao ?_
  exact D.rx
 ·rw[if_pos rfl]
  have ax:=ax rfl
  refine cF bN Tryz.func20 HK (by simp only[b3,I.flat,dG,dp,of_flat,Bool.and_self]) rfl ?_
  unfold vd FL
  simp(disch:=omega)only[go_sem,simprocAttr]
  refine ao ?_
  refine D.P (ar) ?_
  refine ao ?_
  refine D.P (ax) ?_
  refine ao ?_
  exact D.rx
end
end Go.bc.T.N
namespace Go.bc
open Go Go.bc.T.N
theorem wj {a:Int}(aw: -9223372036854775808≤a) (J:a<9223372036854775808):IntKind.i64.wrap a=a:=by
 simp only[IntKind.wrap,IntKind.bits,IntKind.signed]
 simp
 omega
mutual
theorem ad.z6: ∀x:ad,x.bI≤100000000→x.am=(x.bI:Int)-1
 | .mk _ _ _ _ _ l,h=>by
  simp only[ad.bI]at h
  have aH:=ad.hZ l
  simp only[ad.am,ad.bI]
  rw[ad.sz l (l.length:Int) (by omega) (by omega) (by omega)]
  omega
theorem ad.sz: ∀(l:List ad) (n:Int),ad.bB l≤100000000→0≤n→n+(ad.bB l:Int)≤1000000000000→ad.iH l n=n+((ad.bB l:Int)-l.length)
 |[],n,_,_,_=>by simp [ad.iH,ad.bB]
 |x::l,n,h,aw,J=>by
  simp only[ad.bB]at h J
  have hp:1≤x.bI:=by cases x; simp only[ad.bI]; omega
  rw[ad.iH,ad.z6 x (by omega),wj (by omega) (by omega),ad.sz l _ (by omega) (by omega) (by omega)]
  simp only[ad.bB,List.length_cons]
  omega
end
mutual
theorem ac.z6: ∀x:ac,x.bI≤100000000→x.am=(x.bI:Int)-1
 | .mk _ _ x _ a b,h=>by
  simp only[ac.bI]at h
  have hp:1≤x.bI:=by cases x; simp only[ad.bI]; omega
  have aP:=ac.hZ a
  have hb:=ac.hZ b
  simp only[ac.am,ac.bI]
  rw[ad.z6 x (by omega),ac.sz a (a.length:Int) (by omega) (by omega) (by omega),ac.sz b (b.length:Int) (by omega) (by omega) (by omega),wj (a:=1+ _) (by omega) (by omega),wj (a:=1+ _+ _) (by omega) (by omega),wj (by omega) (by omega)]
  omega
theorem ac.sz: ∀(l:List ac) (n:Int),ac.bB l≤100000000→0≤n→n+(ac.bB l:Int)≤1000000000000→ac.iH l n=n+((ac.bB l:Int)-l.length)
 |[],n,_,_,_=>by simp [ac.iH,ac.bB]
 |x::l,n,h,aw,J=>by
  simp only[ac.bB]at h J
  have hp:1≤x.bI:=by cases x; simp only[ac.bI]; omega
  rw[ac.iH,ac.z6 x (by omega),wj (by omega) (by omega),ac.sz l _ (by omega) (by omega) (by omega)]
  simp only[ac.bB,List.length_cons]
  omega
end
def p0:List cd→Nat
 |[]=>0
 |h::l=>ac.bB h.body+p0 l
def p1:List ca→Nat
 |[]=>0
 |o::l=>ad.bB o.args+ad.bB o.dT+p1 l
theorem Ls: ∀(l:List cd) (n:Int) (z:Int),p0 l≤100000000→0≤n→n+(p0 l:Int)≤1000000000000→rF l n=some z→z=n+p0 l∧∀h∈l,h.ps.length≤60∧ac.bB h.body≤p0 l
 |[],n,z,_,_,_,h=>by
  simp only[rF,Option.some.injEq]at h
  simp [p0,h]
 |h::l,n,z,ap,aw,J,aW=>by
  simp only[p0]at ap J
  simp only[rF]at aW
  by_cases hp:60<h.ps.length
  ·rw[if_pos hp]at aW; cases aW
  rw[if_neg hp]at aW
  have aH:=ac.hZ h.body
  rw[ac.sz h.body (h.body.length:Int) (by omega) (by omega) (by omega),wj (by omega) (by omega)]at aW
  obtain⟨e,k⟩:=Ls l _ z (by omega) (by omega) (by omega) aW
  refine⟨by simp only[p0]; omega,fun g aY=> ?_⟩
  simp only[p0]
  rcases List.mem_cons.1 aY with rfl|aY
  ·exact⟨by omega,by omega⟩
  ·have:=k g aY
   exact⟨this.1,by omega⟩
theorem Lu: ∀(l:List ca) (n:Int),p1 l≤100000000→0≤n→n+(p1 l:Int)≤1000000000000→rR l n=n+p1 l
 |[],n,_,_,_=>by simp [rR,p1]
 |o::l,n,ap,aw,J=>by
  simp only[p1]at ap J
  have aP:=ad.hZ o.args
  have hb:=ad.hZ o.dT
  rw[rR,ad.sz o.args (o.args.length:Int) (by omega) (by omega) (by omega),ad.sz o.dT (o.dT.length:Int) (by omega) (by omega) (by omega)]
  simp (disch:=omega) only[wj]
  rw[Lu l _ (by omega) (by omega) (by omega)]
  simp only[p1]
  omega
theorem R5: ∀ {l:List ca}{o:ca},o∈l→ad.bB o.args+ad.bB o.dT≤p1 l
 |p::l,o,h=>by
  simp only[p1]
  rcases List.mem_cons.1 h with rfl|h
  ·omega
  ·have:=R5 h; omega
theorem XO {x:e9}(J:p0 x.ap≤100000000) (aa:p1 x.os≤100000000) (aW:ti x=true):oI x:=by
 unfold ti at aW
 cases bh:rF x.ap 0 with
 |none=>rw[bh]at aW; cases aW
 |some n=>
  rw[bh]at aW
  obtain⟨e,k⟩:=Ls x.ap 0 n J (by omega) (by omega) bh
  simp only[Bool.and_eq_true,decide_eq_true_eq]at aW
  rw[Lu x.os n aa (by omega) (by omega)]at aW
  obtain⟨f1,f2,f3,f4⟩:=aW
  exact⟨fun h hm=>by have:=(k h hm).2; omega,fun h hm=>by have:=(k h hm).1; omega,fun o hm=>by have:=R5 hm; omega,by omega,by omega,by omega⟩
theorem R1: ∀l:List cd,p0 l≤pd (l.map cd.row)
 |[]=>by simp [p0]
 |h::l=>by
  have:=R1 l
  have:=ac.sA h.body
  simp only[p0,List.map_cons,pd,cd.row,iI,I.oJ]
  omega
theorem R2: ∀l:List ca,p1 l≤pd (l.map ca.row)
 |[]=>by simp [p1]
 |o::l=>by
  have:=R2 l
  have:=ad.sA o.args
  have:=ad.sA o.dT
  simp only[p1,List.map_cons,pd,ca.row,iI,I.oJ]
  omega
theorem Uj {x:e9}(h:iI x.cells≤100000000) (aW:ti x=true):oI x:=by
 have J:=R1 x.ap
 have aa:=R2 x.os
 simp only[e9.cells,iI,I.oJ]at h
 exact XO (by omega) (by omega) aW
end Go.bc
set_option maxRecDepth 100000
namespace Go.bc.T.N
open Go Go.bc Go.Proofs Go.ChangeShapes Go.WideShapes Go.RowKit
def pg:List TypeId:=[9,51,66,95,99,165]
theorem XD:FU Tryz.prog pg=true:=by kernel_rfl
theorem RF:lK Tryz.prog pg 8 51=some [.ey (.i .i64),.ey .s,.ey .s,.ey .s,.ey (.i .i64),.io 51]:=by kernel_rfl
theorem az4:lK Tryz.prog pg 8 165=some [.ey (.i .i64),.ey .s,.ey (.i .i64),.ey .s,.ey .s,.ey .s,.ey (.i .i64),.io 51,.ey (.i .i64),.io 165,.io 165]:=by kernel_rfl
theorem aD2:lK Tryz.prog pg 8 9=some [.ey .s]:=by kernel_rfl
theorem aD3:lK Tryz.prog pg 8 95=some [.ey .s,.ey (.i .i64),.ey (.i .i64),.ey (.i .i64),.ey (.i .i64),.ey (.i .i64),.ey .s]:=by kernel_rfl
theorem aD4:lK Tryz.prog pg 8 99=some [.ey .s,.ey .s,.io 9,.io 165]:=by kernel_rfl
theorem aC9:lK Tryz.prog pg 8 66=some [.ey .s,.ey .s,.io 51,.io 51]:=by kernel_rfl
theorem az5:lK Tryz.prog pg 8 35=some [.ey .s,.ey .s,.ey .s,.io 95,.io 99,.io 66]:=by kernel_rfl
theorem Gf:Tryz.prog.cellsOf 51=6:=by kernel_rfl
theorem R6:Tryz.prog.cellsOf 165=11:=by kernel_rfl
theorem Wb:Tryz.prog.cellsOf 9=1:=by kernel_rfl
theorem WU:Tryz.prog.cellsOf 95=7:=by kernel_rfl
theorem W6:Tryz.prog.cellsOf 99=4:=by kernel_rfl
theorem Wa:Tryz.prog.cellsOf 66=4:=by kernel_rfl
theorem Dy:Tryz.prog.bytesOf 51=88:=by kernel_rfl
theorem HG:Tryz.prog.bytesOf 165=168:=by kernel_rfl
theorem Ar:Tryz.prog.bytesOf 9=16:=by kernel_rfl
theorem Ty:Tryz.prog.bytesOf 95=72:=by kernel_rfl
theorem TA:Tryz.prog.bytesOf 99=80:=by kernel_rfl
theorem Tq:Tryz.prog.bytesOf 66=80:=by kernel_rfl
variable {R:Nat}
theorem Lr (n:Nat) (r:List I) (h:ov Tryz.prog pg R n 51 r): ∃x:ad,r=x.row∧x.ok R:=D0 RF Gf Dy n r h
theorem aE5 (n:Nat) (r:List I) (h:ov Tryz.prog pg R n 165 r): ∃x:ac,r=x.row∧x.ok R:=Gc RF Gf Dy az4 R6 HG n r h
theorem aH4: ∀(n:Nat) (r:List I),ov Tryz.prog pg R n 9 r→∃s:List UInt8,r=cj s∧s.length≤R
 |0,_,h=>h.elim
 |n+1,r,h=>by
  obtain⟨cu,J,aa⟩:=h
  rw[aD2]at J
  cases J
  simp only[jW,iq.ok]at aa
  obtain⟨_,_,rfl,⟨s,rfl,ap⟩,rfl⟩:=aa
  exact⟨s,rfl,ap⟩
theorem aL7: ∀(n:Nat) (r:List I),ov Tryz.prog pg R n 95 r→∃v:cb,r=v.row∧v.ok R
 |0,_,h=>h.elim
 |n+1,r,h=>by
  obtain⟨cu,J,aa⟩:=h
  rw[aD3]at J
  cases J
  simp only[jW,iq.ok]at aa
  obtain⟨_,_,rfl,⟨a,rfl,pn⟩,_,_,rfl,⟨b,rfl,mc⟩,_,_,rfl,⟨c,rfl,sp⟩,_,_,rfl,⟨d,rfl,v7⟩,_,_,rfl,⟨e,rfl,GC⟩,_,_,rfl,⟨f,rfl,GD⟩,_,_,rfl,⟨g,rfl,aM0⟩,rfl⟩:=aa
  exact⟨⟨a,b,c,d,e,f,g⟩,rfl,⟨pn,aM0⟩,mc,sp,v7,GC,GD⟩
theorem YF: ∀(n:Nat) (r:List I),ov Tryz.prog pg R n 99 r→∃v:cd,r=v.row∧v.ok R
 |0,_,h=>h.elim
 |n+1,r,h=>by
  obtain⟨cu,J,aa⟩:=h
  rw[aD4]at J
  cases J
  simp only[jW,iq.ok,Wb,Ar,R6,HG]at aa
  obtain⟨_,_,rfl,⟨a,rfl,pn⟩,_,_,rfl,⟨b,rfl,mc⟩,_,_,rfl,⟨bO,rfl,sp,bC⟩,_,_,rfl,⟨b4,rfl,v7,bA⟩,rfl⟩:=aa
  obtain⟨ps,rfl,hp⟩:=qP (f:=cj) (p:=fun s=>s.length≤R) fun r hm=>aH4 n r (bC r hm)
  obtain⟨l,rfl,aH⟩:=qP (f:=ac.row) (p:=ac.ok R) fun r hm=>aE5 n r (bA r hm)
  exact⟨⟨a,b,ps,l⟩,by simp only[cd.row,ac.l8],pn,mc,by simpa using sp,hp,by simpa using v7,ac.r9 aH⟩
theorem ak1: ∀(n:Nat) (r:List I),ov Tryz.prog pg R n 66 r→∃v:ca,r=v.row∧v.ok R
 |0,_,h=>h.elim
 |n+1,r,h=>by
  obtain⟨cu,J,aa⟩:=h
  rw[aC9]at J
  cases J
  simp only[jW,iq.ok,Gf,Dy]at aa
  obtain⟨_,_,rfl,⟨a,rfl,pn⟩,_,_,rfl,⟨b,rfl,mc⟩,_,_,rfl,⟨bO,rfl,sp,bC⟩,_,_,rfl,⟨b4,rfl,v7,bA⟩,rfl⟩:=aa
  obtain⟨aM,rfl,J⟩:=qP (f:=ad.row) (p:=ad.ok R) fun r hm=>Lr n r (bC r hm)
  obtain⟨dZ,rfl,aa⟩:=qP (f:=ad.row) (p:=ad.ok R) fun r hm=>Lr n r (bA r hm)
  exact⟨⟨a,b,aM,dZ⟩,by simp only[ca.row,ad.l8],pn,mc,by simpa using sp,ad.r9 J,by simpa using v7,ad.r9 aa⟩
section
variable {H:Type}{enc:TypeId×Value→H}{w:World}{base:Nat}{spare:Nat→Bool}{held:Bool}
theorem am2 {v:Value}{x:DataW H}{p:List MemPlace}{r:Reach}{hi:Nat}(aB: ∀n∈DataW.weights Tryz.prog 35 x,n≤R) (af:Value.okWide Tryz.prog w r hi 35 v) (h:DataW.Trod enc Tryz.prog w base spare held 35 v x p):
  ∃q:e9,(q.ok R∧iI q.cells≤jE x)∧∀m:Mem,m.w=w→m.H=aA.none→aR m q.ir v:=by
 obtain⟨n,lf,⟨J,aa⟩,au⟩:=aD6 XD Tryz.underlying35 az5 aB af h
 simp only[jW,iq.ok,WU,W6,Wa,Ty,TA,Tq]at J
 obtain⟨_,_,rfl,⟨a,rfl,pn⟩,_,_,rfl,⟨b,rfl,mc⟩,_,_,rfl,⟨c,rfl,sp⟩,_,_,rfl,⟨bO,rfl,v7,bC⟩,_,_,rfl,⟨b4,rfl,GC,bA⟩,_,_,rfl,⟨cJ,rfl,GD,cO⟩,rfl⟩:=J
 obtain⟨aM,rfl,g1⟩:=qP (f:=cb.row) (p:=cb.ok R) fun r hm=>aL7 n r (bC r hm)
 obtain⟨dZ,rfl,g2⟩:=qP (f:=cd.row) (p:=cd.ok R) fun r hm=>YF n r (bA r hm)
 obtain⟨o2,rfl,g3⟩:=qP (f:=ca.row) (p:=ca.ok R) fun r hm=>ak1 n r (cO r hm)
 exact⟨⟨a,b,c,aM,dZ,o2⟩,⟨⟨pn,mc,sp,by simpa using v7,g1,by simpa using GC,g2,by simpa using GD,g3⟩,aa⟩,au⟩
end
end Go.bc.T.N
namespace Go.Proofs.YtjkbgcgljnldeaaGreatDoor
open Go.ChangeShapes Go.WideShapes Go.ChangeAt Go.RowKit
mutual
theorem Is {H:Type}: ∀d:DataW H,Go.bc.jE d≤Rows.uptoBulk d
 | .lit l=>by cases l<;>simp [Go.bc.jE,Rows.uptoBulk]
 | .nil=>by simp [Go.bc.jE,Rows.uptoBulk]
 | .ptr d=>by simp [Go.bc.jE,Rows.uptoBulk]
 | .slice qR spare=>by
  have:=Ac qR
  have:=Ac spare
  simp only[Go.bc.jE,Rows.uptoBulk]
  omega
 | .agg parts=>by
  have:=Ac parts
  simp only[Go.bc.jE,Rows.uptoBulk]
  omega
 | .iface _ d=>by simp [Go.bc.jE,Rows.uptoBulk]
 | .map entries=>by simp [Go.bc.jE,Rows.uptoBulk]
 | .held _=>by simp [Go.bc.jE,Rows.uptoBulk]
theorem Ac {H:Type}: ∀l:List (DataW H),Go.bc.od l≤Rows.uptoBulkAll l
 |[]=>by simp [Go.bc.od,Rows.uptoBulkAll]
 |d::r=>by
  have:=Is d
  have:=Ac r
  simp only[Go.bc.od,Rows.uptoBulkAll]
  omega
end
section
variable {H:Type}{enc:TypeId×Value→H}
theorem ay6 {a:Assume}{C:Checked}{os:Os}{f:FuncId}{fn:Func}{s:ChangeSpec}{conds:List PathCond}{apart fresh handsOn again:Bool}{X:World→Array Value→Prop}
  (uj: ∀(w w':World) (args:Array Value),w.heap=w'.heap→X w args→X w' args)
  (own:ownKnob C.prog.godebug=none) (started:os.Started) (aj3:C.prog.inits.idxOf? f=none) (xi:C.prog.funcs[f]? =some fn)
  (witness: ∃(w:World) (tape:Tape) (i:Input),w.os=os∧(w.forCall tape i).Shaped C.prog∧i.vars=[]∧Input.okWide C.prog (w.forCall tape i) .any w.heap.size f i∧
   (((Rows.OpenSpec.upto s).pre enc C.prog fn conds apart (w.forCall tape i).memory i.args∧X (w.forCall tape i).memory i.args)∧sizedMet enc C.prog fn (Rows.OpenSpec.upto s) apart (w.forCall tape i).memory i.args)∧a.holds C.prog (lone (Frame.enter C.prog f i.args .normal) [] (w.forCall tape i)))
  (contract: ∀(W:World) (base:Nat) (args:Array Value) (iZ gs:List (DataW H)) (before:List MemPlace),
   (∀(j:Nat) t v,fn.params[j]? =some t→args[j]? =some v→Value.okWide C.prog W .any base t v)→
   DataW.Whole enc C.prog fn.params.toList s.vars apart W args.toList iZ gs before→
   (DataW.weightsEach C.prog (fn.params.toList++s.plain.varTypes C.prog) (iZ++gs)).all (·≤reachBytes)=true→
   Rows.uptoBulkAll (iZ++gs)≤1048576→
   X W args→W.ShapedOpen C.prog→
   Calls C.prog f args W fun e CV=> ∃v,e= .returned v∧s.post enc C.prog fn apart fresh handsOn again W args v CV):
  ReturnsInHanded a C os f .any (fun w args=>((Rows.OpenSpec.upto s).pre enc C.prog fn conds apart w args∧X w args)∧sizedMet enc C.prog fn (Rows.OpenSpec.upto s) apart w args) (s.post enc C.prog fn apart fresh handsOn again):=by
 refine returnsInHanded_of_calls own started aj3 witness ?_
 intro w tape i _ Ev _ iy xm _
 obtain⟨_,_,_,XV,Za,_,_,_,_,Bz⟩:=iy
 obtain rfl:XV=fn:=Option.some.inj (Za.symm.trans xi)
 obtain⟨⟨⟨iZ,gs,before,hw,_,aC⟩,ab⟩,aB⟩:=xm
 have rT:Rows.uptoBulkAll (iZ++gs)≤1048576:=of_decide_eq_true aC
 have Ey:=DataW.Whole.of_heap (w':=w.forCall tape i) (by rfl) hw
 refine (contract (w.forCall tape i) w.heap.size i.args iZ gs before Bz Ey (aB.weights hw) rT (uj _ _ _ (by rfl) ab) Ev).mono fun e CV ⟨v,he,hp⟩=> ?_
 subst he
 exact ChangeSpec.post_blind hp
def Fs (enc:TypeId×Value→H) (P:Program) (f:Func) (s:ChangeSpec) (conds:List PathCond) (apart:Bool) (w:World) (args:Array Value) (jY:Nat):Bool:=
 match DataW.whole enc P w f.params.toList s.vars apart args.toList jY with
 |some x=>conds.all (PathCond.test P ⟨f.params.toList,x.1,s.plain.varTypes P,x.2.1⟩)&&decide (Rows.uptoBulkAll (x.1++x.2.1)≤1048576)
 |none=>false
theorem aq1 {P:Program}{w:World}{f:Func}{s:ChangeSpec}{conds:List PathCond}{apart:Bool}{args:Array Value}{jY:Nat}(h:Fs enc P f s conds apart w args jY=true):(Rows.OpenSpec.upto s).pre enc P f conds apart w args:=by
 unfold Fs at h
 split at h
 ·rename_i x ab
  rw[Bool.and_eq_true]at h
  exact⟨x.1,x.2.1,x.2.2,DataW.Whole_of_whole ab,h.1,h.2⟩
 ·cases h
theorem aM5 {C:Checked}{os:Os}{f:FuncId}{fn:Func}{s:ChangeSpec}{conds:List PathCond}{apart:Bool}{X:World→Array Value→Prop}(modest:Bool) (wi:World) (args:Array Value) (jY:Nat) (Bt:wi.os=os)
  (Ev:(wi.forCall (fun _ _=>0) ⟨#[],args,[]⟩).Shaped C.prog)
  (iy:Input.okWideB C.prog (wi.forCall (fun _ _=>0) ⟨#[],args,[]⟩) f ⟨#[],args,[]⟩=true)
  (xm:Fs enc C.prog fn s conds apart (wi.forCall (fun _ _=>0) ⟨#[],args,[]⟩).memory args jY=true)
  (dm:s.sizedB enc C.prog fn apart (wi.forCall (fun _ _=>0) ⟨#[],args,[]⟩).memory args jY=true)
  (ab:X (wi.forCall (fun _ _=>0) ⟨#[],args,[]⟩).memory args):
  ∃(w:World) (tape:Tape) (i:Input),w.os=os∧(w.forCall tape i).Shaped C.prog∧i.vars=[]∧Input.okWide C.prog (w.forCall tape i) .any w.heap.size f i∧
   (((Rows.OpenSpec.upto s).pre enc C.prog fn conds apart (w.forCall tape i).memory i.args∧X (w.forCall tape i).memory i.args)∧sizedMet enc C.prog fn (Rows.OpenSpec.upto s) apart (w.forCall tape i).memory i.args)∧({modest:=modest}:Assume).holds C.prog (lone (Frame.enter C.prog f i.args .normal) [] (w.forCall tape i)):=
 ⟨wi,fun _ _=>0,⟨#[],args,[]⟩,Bt,Ev,(Input.okWide_of_okWideB (base:=0) iy).1,(Input.okWide_of_okWideB iy).2,⟨⟨aq1 xm,ab⟩,sizedMet_of_sizedB dm⟩,by
  simp only[Assume.holds]
  exact⟨by simp,by simp,fun _=>Modest.zero,by simp,by simp⟩⟩
end
end Go.Proofs.YtjkbgcgljnldeaaGreatDoor
namespace Go.bc
open Go Go.bc.T.N
theorem ao6 {n:Nat}{us:bH}{x:e9}(a6:lo 0 n us= .ok x []){k6:List ba}(ac1:k6.map ba.c=us) (en:Int):lo en (3*k6.length+2) k6= .ok x []:=by
 rw[←ac1]at a6
 have J:=ao7 en 0 n k6
 rw[a6]at J
 have aa:lo en n k6= .ok x []:=by
  cases hp:lo en n k6 with
  |out=>rw[hp]at J; exact J.elim
  |err p e=>rw[hp]at J; exact J.elim
  |ok y r=>
   rw[hp]at J
   obtain⟨ar,ax⟩:=J
   have:r=[]:=by
    cases r with
    |nil=>rfl
    |cons t r=>simp at ax
   rw[this,ar]
 have au:=Oq (en:=en) (n:=3*k6.length+2) (l:=k6) (Nat.le_refl _)
 have bn:=J1 au (Nat.le_max_left (3*k6.length+2) n)
 have bL:=J1 (en:=en) (n:=n) (l:=k6) (by rw[aa]; exact fr) (Nat.le_max_right (3*k6.length+2) n)
 rw[←bn,bL,aa]
theorem ap8 {s:a7}{us:bH}{x:e9}{n:Nat}(J:aT s [] us) (ap:s.length≤8000) (a6:lo 0 n us= .ok x []) (aY:kJ x=true):tb s=(x,0,0):=by
 obtain⟨k6,ar,ax⟩:=aT.fin J ap
 have hp:=ao6 a6 ax (s.length:Int)
 unfold tb
 rw[ar]
 simp only[BX,hp]
 rw[if_pos aY]
def sx (t:a7):a7→a7
 |[]=>t
 |c::r=>if c=10 then r else sx t r
def n5 (s:a7) (first:Bool):a7:=if s.length<2 then[] else if first=true then s.take (s.length-2) else sx (s.take (s.length-2)) (s.take (s.length-2))
theorem Hu (t r:a7): ∀u:a7,10∉u→sx t (u++10::r)=r
 |[],_=>by simp [sx]
 |c::u,h=>by
  simp only[List.mem_cons,not_or]at h
  rw[List.cons_append,sx,if_neg (fun e=>h.1 e.symm),Hu t r u h.2]
def Y0 (x:e9):a7:=[115,101,114,118,105,99,101,32]++x.name++[32,112,108,97,121,115,32]++x.hD++[32,111,102,32]++x.hA++[32,123]
def lr (x:e9):a7:=(x.vars.map jT).flatten++((x.ap.map jb).flatten++(x.os.map jJ).flatten)
theorem uP (x:e9):iK x=Y0 x++10::(lr x++[125,10]):=by simp [iK,Y0,lr,eE]
theorem GH {w:a7}(h:db w=true):10∉w:=by
 cases w with
 |nil=>simp
 |cons c w=>
  simp only[db,mx,Bool.and_eq_true]at h
  intro hm
  have:=List.all_eq_true.1 h.1.2.2 _ hm
  exact absurd this (by decide)
theorem Zk {x:e9}(h:qX x=true):10∉Y0 x:=by
 simp only[qX,Bool.and_eq_true]at h
 simp only[Y0,List.mem_append,not_or]
 exact⟨⟨⟨⟨⟨⟨by decide,GH h.1⟩,by decide⟩,GH h.2.1⟩,by decide⟩,GH h.2.2.1⟩,by decide⟩
theorem Dg {x:e9}(h:qX x=true) (b:Bool):n5 (iK x) b=if b=true then Y0 x++10::lr x else lr x:=by
 have e:(iK x).take ((iK x).length-2)=Y0 x++10::lr x:=by
  have:iK x=(Y0 x++10::lr x)++[125,10]:=by rw[uP]; simp
  rw[this]
  generalize Y0 x++10::lr x=A
  simp
 have aa: ¬(iK x).length<2:=by rw[uP]; simp only[List.length_append,List.length_cons,List.length_nil]; omega
 unfold n5
 rw[if_neg aa,e,Hu _ _ _ (Zk h)]
def mr (x:e9) (k:Nat):e9:=⟨x.name,x.hD,x.hA,x.vars,x.ap.take k,[]⟩
def pH (x:e9):e9:=⟨x.name,x.hD,x.hA,[],[],x.os⟩
def oh (x:e9) (k:Nat):e9:=⟨x.name,x.hD,x.hA,[],x.ap.drop k,[]⟩
theorem Oa (x:e9) (k:Nat):(lr (mr x k)).length+(lr (pH x)).length+(lr (oh x k)).length=(lr x).length:=by
 have e:(x.ap.map jb).flatten=((x.ap.take k).map jb).flatten++((x.ap.drop k).map jb).flatten:=by
  rw[←List.flatten_append,←List.map_append,List.take_append_drop]
 simp only[lr,mr,pH,oh,List.map_nil,List.flatten_nil,List.length_append,List.length_nil,e]
 omega
theorem C9 {α:Type}{p:α→Bool}{l:List α}(h:l.all p=true) (k:Nat):(l.take k).all p=true:=List.all_eq_true.2 fun y aZ=>List.all_eq_true.1 h y (List.mem_of_mem_take aZ)
theorem C4 {α:Type}{p:α→Bool}{l:List α}(h:l.all p=true) (k:Nat):(l.drop k).all p=true:=List.all_eq_true.2 fun y aZ=>List.all_eq_true.1 h y (List.mem_of_mem_drop aZ)
theorem Ly {x:e9}(aY:kJ x=true) (k:Nat):kJ (mr x k)=true∧kJ (pH x)=true∧kJ (oh x k)=true:=by
 simp only[kJ,Bool.and_eq_true,decide_eq_true_eq]at aY
 obtain⟨J,aa,au⟩:=aY
 have hm:=Oa x k
 rw[uP]at au
 simp only[List.length_append,List.length_cons,List.length_nil]at au
 simp only[qX,Bool.and_eq_true,decide_eq_true_eq]at J
 simp only[py,Bool.and_eq_true]at aa
 have aO:(x.ap.take k).length≤x.ap.length:=by rw[List.length_take]; omega
 have bw:(x.ap.drop k).length≤x.ap.length:=by rw[List.length_drop]; omega
 obtain⟨fN,a2,a3,a4,a5,Ha⟩:=J
 refine⟨?_,?_,?_⟩
 ·simp only[kJ,qX,py,Bool.and_eq_true,decide_eq_true_eq]
  refine⟨⟨fN,a2,a3,a4,?_,Nat.zero_le _⟩,⟨aa.1,C9 aa.2.1 k,rfl⟩,?_⟩
  ·exact Nat.le_trans aO a5
  ·rw[uP]
   simp only[List.length_append,List.length_cons,List.length_nil]
   have:Y0 (mr x k)=Y0 x:=rfl
   rw[this]
   omega
 ·simp only[kJ,qX,py,Bool.and_eq_true,decide_eq_true_eq]
  refine⟨⟨fN,a2,a3,Nat.zero_le _,Nat.zero_le _,Ha⟩,⟨rfl,rfl,aa.2.2⟩,?_⟩
  rw[uP]
  simp only[List.length_append,List.length_cons,List.length_nil]
  have:Y0 (pH x)=Y0 x:=rfl
  rw[this]
  omega
 ·simp only[kJ,qX,py,Bool.and_eq_true,decide_eq_true_eq]
  refine⟨⟨fN,a2,a3,Nat.zero_le _,?_,Nat.zero_le _⟩,⟨rfl,C4 aa.2.1 k,rfl⟩,?_⟩
  ·exact Nat.le_trans bw a5
  ·rw[uP]
   simp only[List.length_append,List.length_cons,List.length_nil]
   have:Y0 (oh x k)=Y0 x:=rfl
   rw[this]
   omega
theorem AW: ∀a b:List hJ,na (a++b)=na a++na b
 |[],b=>rfl
 | .h x::a,b=>by simp only[List.cons_append,na,AW a b]
 | .o x::a,b=>by simp only[List.cons_append,na,AW a b]
theorem A9: ∀a b:List hJ,nq (a++b)=nq a++nq b
 |[],b=>rfl
 | .h x::a,b=>by simp only[List.cons_append,nq,A9 a b]
 | .o x::a,b=>by simp only[List.cons_append,nq,A9 a b]
theorem wY: ∀l:List cd,na (l.map hJ.h)=l∧nq (l.map hJ.h)=[]
 |[]=>⟨rfl,rfl⟩
 |x::l=>⟨by simp only[List.map_cons,na,(wY l).1],by simp only[List.map_cons,nq,(wY l).2]⟩
theorem Bb: ∀l:List ca,na (l.map hJ.o)=[]∧nq (l.map hJ.o)=l
 |[]=>⟨rfl,rfl⟩
 |x::l=>⟨by simp only[List.map_cons,na,(Bb l).1],by simp only[List.map_cons,nq,(Bb l).2]⟩
theorem am3 {x:e9}(aY:kJ x=true) (k:Nat):tb (n5 (iK (mr x k)) true++n5 (iK (pH x)) false++n5 (iK (oh x k)) false++[125])=(x,0,0)∧(n5 (iK (mr x k)) true++n5 (iK (pH x)) false++n5 (iK (oh x k)) false++[125]).length≤8000:=by
 obtain⟨g1,g2,g3⟩:=Ly aY k
 have fR:qX (mr x k)=true:=by simp only[kJ,Bool.and_eq_true]at g1; exact g1.1
 have il:qX (pH x)=true:=by simp only[kJ,Bool.and_eq_true]at g2; exact g2.1
 have gl:qX (oh x k)=true:=by simp only[kJ,Bool.and_eq_true]at g3; exact g3.1
 rw[Dg fR,Dg il,Dg gl,if_pos rfl,if_neg (by decide),if_neg (by decide)]
 have hm:=Oa x k
 have yW:=aY
 simp only[kJ,Bool.and_eq_true,decide_eq_true_eq]at yW
 obtain⟨J,aa,au⟩:=yW
 rw[uP]at au
 simp only[List.length_append,List.length_cons,List.length_nil]at au
 have hlen:(Y0 (mr x k)++10::lr (mr x k)++lr (pH x)++lr (oh x k)++[125]).length≤8000:=by
  simp only[List.length_append,List.length_cons,List.length_nil]
  have:Y0 (mr x k)=Y0 x:=rfl
  rw[this]
  omega
 refine⟨?_,hlen⟩
 simp only[qX,Bool.and_eq_true]at J
 simp only[py,Bool.and_eq_true]at aa
 obtain⟨P,nE⟩: ∃P:List hJ,P=(x.ap.take k).map hJ.h++(x.os.map hJ.o++(x.ap.drop k).map hJ.h):=⟨_,rfl⟩
 have Yz:P.all hJ.xI=true:=by
  rw[nE,List.all_append,List.all_append,List.all_map,List.all_map,List.all_map]
  have x4:=C9 aa.2.1 k
  have x5:=C4 aa.2.1 k
  simp only[Bool.and_eq_true]
  exact⟨x4,aa.2.2,x5⟩
 obtain⟨n,a6⟩:=ao8 J.1 J.2.1 J.2.2.1 aa.1 Yz
 have Xi:na P=x.ap:=by
  rw[nE,AW,AW,(wY _).1,(Bb _).1,(wY _).1,List.nil_append,List.take_append_drop]
 have XC:nq P=x.os:=by
  rw[nE,A9,A9,(wY _).2,(Bb _).2,(wY _).2,List.nil_append,List.append_nil]
 rw[Xi,XC]at a6
 refine ap8 ?_ hlen a6 aY
 have bw:Y0 (mr x k)++10::lr (mr x k)++lr (pH x)++lr (oh x k)++[125]=eE 0 [[115,101,114,118,105,99,101,32],x.name,[32,112,108,97,121,115,32],x.hD,[32,111,102,32],x.hA,[32,123]]++((x.vars.map jT).flatten++(((x.ap.take k).map jb).flatten++((x.os.map jJ).flatten++(((x.ap.drop k).map jb).flatten++[125])))):=by
  simp [Y0,lr,mr,pH,oh,eE]
 have aO:(P.map hJ.uC).flatten++[cy [125]]=((x.ap.take k).map th).flatten++((x.os.map uD).flatten++(((x.ap.drop k).map th).flatten++[cy [125]])):=by
  rw[nE]
  simp only[List.map_append,List.map_map,List.flatten_append,List.append_assoc]
  rfl
 rw[bw,aO]
 refine aT.Zu J.1 J.2.1 J.2.2.1 ?_
 refine aT.maps (P:=fun v=>iN v=true) (fun v af r q us h=>aT.aL6 af h) x.vars (fun v af=>List.all_eq_true.1 aa.1 v af) _ _ _ ?_
 refine aT.maps (P:=fun v=>jZ v=true) (fun v af r q us h=>aT.LJ af h) _ (fun v af=>List.all_eq_true.1 (C9 aa.2.1 k) v af) _ _ _ ?_
 refine aT.maps (P:=fun v=>j6 v=true) (fun v af r q us h=>aT.ak6 af h) x.os (fun v af=>List.all_eq_true.1 aa.2.2 v af) _ _ _ ?_
 refine aT.maps (P:=fun v=>jZ v=true) (fun v af r q us h=>aT.LJ af h) _ (fun v af=>List.all_eq_true.1 (C4 aa.2.1 k) v af) _ _ _ ?_
 exact aT.lone rfl (aT.refl [])
end Go.bc
namespace Go.bc.T.N
open Go Go.bc Go.Proofs Go.RowKit
set_option maxRecDepth 100000
attribute [local irreducible] Go.bc.aj Go.bc.ae Go.bc.bz
section
attribute [local go_sem] ad.ct ac.ct ad.b9 ac.b9 cj eN fZ gJ dp of_flat
attribute [local go_sem] cb.row dG fG mV
theorem Fx (x:e9) (hb:oI x) (pR: ∀h∈x.ap,h.eK.length≤1000000000000000) (rW: ∀o∈x.os,o.eK.length≤1000000000000000) (aY:kJ x=true) (b:Bool):Pure Tryz.prog 29 [x.ir,.bool b] (.str (n5 (iK x) b)):=by
 have vd:=au3 x hb pR rW
 rw[show xC x=if kJ x=true then .di [.str (iK x),.int .i64 0] else .di [.str [],.int .i64 1] from rfl,if_pos aY]at vd
 have aH:(iK x).length≤8000:=by
  simp only[kJ,Bool.and_eq_true,decide_eq_true_eq]at aY
  exact aY.2.2
 clear hb pR rW aY
 generalize iK x=C at*
 rw[lq]at*
 refine cF bN Tryz.func29 Vh (by simp only[b3,I.flat,dG,dp,of_flat,Bool.and_self]) rfl ?_
 unfold J8 QH
 simp(disch:=omega)only[go_sem,simprocAttr]
 refine ao ?_
 refine D.P (vd) ?_
 by_cases aa:C.length<2
 ·have d1:(C.length:Int)<2:=by omega
  (have al:=d1;refine bQ ?_;clear al)
  refine D.r ?_
  exact⟨_,rfl,.av (by rw[n5,if_pos aa]; rfl) rfl,trivial,trivial⟩
 have d1: ¬(C.length:Int)<2:=by omega
 (have al:=d1;refine bQ ?_;clear al)
 have ar:IntKind.i64.wrap ((C.length:Int)-2)=((C.length-2:Nat):Int):=by
  rw[wrap64 (by omega) (by omega)]
  omega
 (apply ae.aG3 (C.length-2);(·simp(disch:=omega)only[go_sem,simprocAttr]<;>with_reducible rfl);(·simp(disch:=omega)only[go_sem,simprocAttr]<;>with_reducible rfl);(·omega);(·(try simp only[List.length_map]);omega))
 have nE:n5 C b=if b=true then C.take (C.length-2) else sx (C.take (C.length-2)) (C.take (C.length-2)):=by rw[n5,if_neg aa]
 have c4:(C.take (C.length-2)).length≤8000:=by rw[List.length_take]; omega
 rw[nE]
 clear nE ar vd d1 aa
 generalize C.take (C.length-2)=T at*
 cases b with
 |true=>
  refine ao ?_
  refine aj.dd (X:=Nat) 0 (fun i=>[(1,.bool true),(5,.str T),(7,.int .i64 (i:Int))]) (fun _=>[]) (fun _=>[]) (fun i=>i=0) (fun i=>0) rfl ⟨rfl,rfl,rfl,trivial⟩ trivial trivial ?_
  intro i ai
  try simp only at ai ⊢
  subst ai
  by_cases aw:0<T.length
  ·have d2:(0:Int)<(T.length:Int):=by omega
   (have al:=d2;refine bQ ?_;clear al)
   exact D.rx
  ·have d2: ¬(0:Int)<(T.length:Int):=by omega
   (have al:=d2;refine bQ ?_;clear al)
   exact D.rx
 |false=>
  rw[if_neg (by decide)]
  refine ao ?_
  refine aj.dd (X:=Nat) 0 (fun i=>[(1,.bool false),(5,.str T),(7,.int .i64 (i:Int))]) (fun _=>[]) (fun _=>[]) (fun i=>i≤T.length∧sx T (T.drop i)=sx T T) (fun i=>T.length-i) ⟨Nat.zero_le _,rfl⟩ ⟨rfl,rfl,rfl,trivial⟩ trivial trivial ?_
  rintro i ⟨ai,aB⟩
  try simp only at ai aB ⊢
  cases af:T[i]? with
  |some v=>
   have cK:=(List.getElem?_eq_some_iff.1 af).1
   have d2:(i:Int)<(T.length:Int):=by omega
   rw[iM af,sx]at aB
   by_cases J:v=10
   ·subst J
    rw[if_pos rfl]at aB
    have d3:((10:UInt8).toNat:Int)=10:=rfl
    (have al:=d2;have z2:=d3;refine e8 ?_;clear al z2)
    (apply ae.RU (i+1);(·simp(disch:=omega)only[go_sem,simprocAttr]<;>with_reducible rfl);(·simp(disch:=omega)only[go_sem,simprocAttr]<;>with_reducible rfl);(·omega);(·(try simp only[List.length_map]);omega))
    refine ao ?_
    refine D.r ?_
    exact⟨_,rfl,.av (by rw[←aB]; rfl) rfl,trivial,trivial⟩
   ·rw[if_neg J]at aB
    have d3: ¬(v.toNat:Int)=10:=fun e=>J (UInt8.toNat_inj.1 (by show v.toNat=10; omega))
    (have al:=d2;have z2:=d3;refine e8 ?_;clear al z2)
    refine aj.dK (i+1) ⟨by omega,aB⟩ ⟨rfl,rfl,by simp only[Int.natCast_add]; rfl,trivial⟩ trivial trivial rfl rfl (by show T.length-(i+1)<T.length-i; omega)
  |none=>
   have cM:=List.getElem?_eq_none_iff.1 af
   have bE:i=T.length:=by omega
   subst bE
   have d2: ¬(T.length:Int)<(T.length:Int):=by omega
   rw[List.drop_length]at aB
   (have al:=d2;refine bQ ?_;clear al)
   refine D.r ?_
   exact⟨_,rfl,.av (by rw[←aB]; rfl) rfl,trivial,trivial⟩
theorem aH7 {x:e9}(hb:oI x) (k:Nat):oI (mr x k)∧oI (pH x)∧oI (oh x k):=by
 refine⟨⟨fun h hm=>hb.aP h (List.mem_of_mem_take hm),fun h hm=>hb.hp h (List.mem_of_mem_take hm),fun o hm=>(by cases hm),hb.nS,?_,Nat.zero_le _⟩,⟨fun h hm=>(by cases hm),fun h hm=>(by cases hm),hb.o6,Nat.zero_le _,Nat.zero_le _,hb.no⟩,⟨fun h hm=>hb.aP h (List.mem_of_mem_drop hm),fun h hm=>hb.hp h (List.mem_of_mem_drop hm),fun o hm=>(by cases hm),Nat.zero_le _,?_,Nat.zero_le _⟩⟩
 ·have:=hb.nh
  simp only[mr,List.length_take]
  omega
 ·have:=hb.nh
  simp only[oh,List.length_drop]
  omega
theorem S7 (x:e9) (k:Nat) (b:Bool):e7 [.agg [.str x.name,.str x.hD,.str x.hA,.ay 7 (x.vars.map cb.row),.ay 4 ((x.ap.take k).map cd.row),.aV],.bool b] [(mr x k).ir,.bool b]:=by
 rw[lq]
 exact Hn (Hm (Hn (eI.refl _) (Hn (eI.refl _) (Hn (eI.refl _) (Hn (eI.refl _) (Hn (eI.refl _) (Hn eI.nil Tm))))))) (Hn (eI.refl _) Tm)
theorem Tn (x:e9) (b:Bool):e7 [.agg [.str x.name,.str x.hD,.str x.hA,.aV,.aV,.ay 4 (x.os.map ca.row)],.bool b] [(pH x).ir,.bool b]:=by
 rw[lq]
 exact Hn (Hm (Hn (eI.refl _) (Hn (eI.refl _) (Hn (eI.refl _) (Hn eI.nil (Hn eI.nil (Hn (eI.refl _) Tm))))))) (Hn (eI.refl _) Tm)
theorem Tp (x:e9) (k:Nat) (b:Bool):e7 [.agg [.str x.name,.str x.hD,.str x.hA,.aV,.ay 4 ((x.ap.drop k).map cd.row),.aV],.bool b] [(oh x k).ir,.bool b]:=by
 rw[lq]
 exact Hn (Hm (Hn (eI.refl _) (Hn (eI.refl _) (Hn (eI.refl _) (Hn eI.nil (Hn (eI.refl _) (Hn eI.nil Tm))))))) (Hn (eI.refl _) Tm)
end
section
attribute [local go_sem] ad.ct ac.ct ad.b9 ac.b9 cj eN fZ gJ dp of_flat
attribute [local go_sem] cb.row dG fG mV
theorem ax0 {R:Nat}(an:R≤140737488355328) (ui:Pure Tryz.prog 11 [] (.bool true)) (x:e9) (ab:x.ok R) (D6:iI x.cells≤100000000) (a:Nat) (aP:a<256):Pure Tryz.prog 9 [x.ir,.int .u8 (a:Int)] (.bool true):=by
 have f1:=at7 an x ab
 cases aW:ti x with
 |false=>
  rw[aW]at f1
  rw[lq]at*
  refine cF bN Tryz.func9 oL (by simp only[b3,I.flat,dG,dp,of_flat,Bool.and_self]) rfl ?_
  unfold AE Rs
  simp(disch:=omega)only[go_sem,simprocAttr]
  refine ao ?_
  refine D.P (ui) ?_
  refine ao ?_
  refine D.P (f1) ?_
  refine ao ?_
  exact D.rx
 |true=>
 rw[aW]at f1
 have hb:=Uj D6 aW
 have pR: ∀h∈x.ap,h.eK.length≤1000000000000000:=fun h hm=>by have:=(ab.ap h hm).1; omega
 have rW: ∀o∈x.os,o.eK.length≤1000000000000000:=fun o hm=>by have:=(ab.os o hm).1; omega
 have vf:=O4 x hb pR rW
 cases aY:kJ x with
 |false=>
  rw[aY]at vf
  rw[lq]at*
  refine cF bN Tryz.func9 oL (by simp only[b3,I.flat,dG,dp,of_flat,Bool.and_self]) rfl ?_
  unfold AE Rs
  simp(disch:=omega)only[go_sem,simprocAttr]
  refine ao ?_
  refine D.P (ui) ?_
  refine ao ?_
  refine D.P (f1) ?_
  refine ao ?_
  refine D.P (vf) ?_
  refine ao ?_
  exact D.rx
 |true=>
 rw[aY]at vf
 have Am:=at5 x hb
 have xz:=ay5 x x hb
 rw[R4]at xz
 have em:(a:Int).tmod (((x.ap.map cd.row).length:Int)+1)=((a%(x.ap.length+1):Nat):Int):=by
  rw[List.length_map,show (x.ap.length:Int)+1=((x.ap.length+1:Nat):Int) from by omega]
  rfl
 obtain⟨k,Zl⟩: ∃k,k=a%(x.ap.length+1):=⟨_,rfl⟩
 have aC:k≤x.ap.length:=by
  have:=Nat.mod_lt a (show 0<x.ap.length+1 from by omega)
  omega
 rw[←Zl]at em
 have Ek:=hb.nh
 obtain⟨g1,g2,g3⟩:=Ly aY k
 obtain⟨eB,dU,jj⟩:=aH7 hb k
 have fR:=(Fx (mr x k) eB (fun h hm=>pR h (List.mem_of_mem_take hm)) (fun o hm=>by cases hm) g1 true).le (S7 x k true)
 have il:=(Fx (pH x) dU (fun h hm=>by cases hm) rW g2 false).le (Tn x false)
 have gl:=(Fx (oh x k) jj (fun h hm=>pR h (List.mem_of_mem_drop hm)) (fun o hm=>by cases hm) g3 false).le (Tp x k false)
 obtain⟨hp,aH⟩:=am3 aY k
 have pI:=Fo _ (Nat.le_trans aH (by decide))
 rw[hp]at pI
 simp only[xA]at pI
 generalize n5 (iK (mr x k)) true=GI at*
 generalize n5 (iK (pH x)) false=GS at*
 generalize n5 (iK (oh x k)) false=GW at*
 have d9: ¬(8000:Int)<((GI++GS++GW++[125]).length:Int):=by omega
 simp only[List.length_append,List.length_cons,List.length_nil]at aH
 rw[lq]at*
 clear hp aY g1 g2 g3 eB dU jj aW
 have IG:IntKind.i64.wrap (((x.ap.map cd.row).length:Int)+1)=((x.ap.map cd.row).length:Int)+1:=by rw[List.length_map,wrap64 (by omega) (by omega)]
 have d0: ¬(((x.ap.map cd.row).length:Int)+1=0):=by omega
 refine cF bN Tryz.func9 oL (by simp only[b3,I.flat,dG,dp,of_flat,Bool.and_self]) rfl ?_
 unfold AE Rs
 simp(disch:=omega)only[go_sem,simprocAttr]
 refine ao ?_
 refine D.P (ui) ?_
 refine ao ?_
 refine D.P (f1) ?_
 refine ao ?_
 refine D.P (vf) ?_
 (have al:=IG;have z2:=em;have z3:=d0;refine ji ?_;clear al z2 z3)
 (apply ae.aD9 (k);(·simp(disch:=omega)only[go_sem,simprocAttr]<;>with_reducible rfl);(·simp(disch:=omega)only[go_sem,simprocAttr]<;>with_reducible rfl);(·omega);(·(try simp only[List.length_map]);omega))
 rw[←List.map_take]
 refine ao ?_
 (apply ae.aG5 (k);(·simp(disch:=omega)only[go_sem,simprocAttr]<;>with_reducible rfl);(·simp(disch:=omega)only[go_sem,simprocAttr]<;>with_reducible rfl);(·omega);(·(try simp only[List.length_map]);omega))
 rw[←List.map_drop]
 refine bK ?_
 iterate 1 refine iT ?_
 (repeat (apply aj.s true true;(·simp(disch:=omega)only[go_sem,simprocAttr,]<;>with_reducible rfl)))
 refine aj.fs (anns:=[.str GI,.str GS,.str GW]) ?_
 refine bK ?_
 refine D.df (fR) ?_
 refine bK ?_
 refine D.df (il) ?_
 refine bK ?_
 refine D.bR ?_ (hb:=by simp only[maxLen]; omega)
 refine bK ?_
 refine D.df (gl) ?_
 refine bK ?_
 refine D.bR ?_
 refine bK ?_
 refine D.bR ?_
 refine ao ?_
 refine D.P (pI) ?_
 refine bK ?_
 (repeat (apply aj.s true true;(·simp(disch:=omega)only[go_sem,simprocAttr,]<;>with_reducible rfl)))
 refine aj.fs (anns:=[(.agg [.str x.name,.str x.hD,.str x.hA,.ay 7 (x.vars.map cb.row),.ay 4 (x.ap.map cd.row),.ay 4 (x.os.map ca.row)]),.bool true]) ?_
 (have al:=d9;refine rj ?_;clear al)
 refine D.df (Am) ?_
 refine bK ?_
 refine D.df (xz) ?_
 refine ao ?_
 exact D.rx
theorem ax8 (q:e9) (bG:q.ok reachBytes) (hb:iI q.cells≤1048576) (a:Int) (aP:(Lit.int .u8 a).wf=true):Pure Tryz.prog 9 [q.ir,.int .u8 a] (.bool true):=by
 obtain⟨n,rfl,h⟩:=wf_u8 aP
 exact ax0 (R:=reachBytes) (by decide) as6 q bG (by omega) n h
end
end Go.bc.T.N
