/- Part of a proof; own work. -/
import Derived.Lib.ItoaNum
import Derived.Lib.Strings
import Derived.Lib.Join
import Derived.Lib.ItoaLen
import Derived.Test.YtlemhelnmidpfaaGreatDoorProg
import Derived.Tactics
import Derived.Tactics2
import Derived.Recover
import Derived.KernelRfl
import Derived.Laws.Pointers
import Derived.Laws.Rows
import Derived.Test.YtlemhelnmidpfaaGreatDoorRS9
set_option linter.unusedVariables false
set_option linter.unusedSimpArgs false
set_option maxHeartbeats 16000000
open Array renaming replicate→bk9
open Bool renaming false_eq_true→bd5,and_true→be0,true_and→bc7,true_or→bk4,and_self→bc0,not_not→bn5,and_eq_true→bb6
open Int renaming natCast_add→bb8
open List renaming map_cons→bd4,replicate→bc9,length_cons→bb9,length_nil→bc4,take_succ_cons→bg0,take_zero→bg2,nil_append→bd6,cons_append→bd2,append_nil→bd8,map_nil→bg5,all_cons→bd3,flatten_cons→bd0,flatten_nil→be3,filter_cons→bn1,filter_nil→bk7,contains_cons→bg3,contains_nil→bk8,length_map→bb5,map_append→be5,length_append→bb7,append_assoc→bc8,take_add_one→bf5,take_length→bf1,mem_of_getElem?→bc2,drop_length→be6,getElem?_of_mem→bf4,take_append_drop→bj5,flatten_append→bm8,length_replicate→bg7,length→bj6,mem_cons_of_mem→bh4,drop_eq_nil_of_le→bc6,mem_cons→be4,not_mem_nil→bh8,length_drop→bl7,length_take→be9
open Nat renaming zero_add→bf6,zero_le→bc3,le_refl→bc1,mul_le_mul_left→bm7,le_trans→bg1,le_of_ble_eq_true→bh6,reduceBEq→bl3,reduceAdd→bl4
open Option renaming map_some→bf0,toList_some→bp8
open Go.Proofs.Tryz renaming prog→bb4
namespace Go.ba
open Go
structure wC where
 kind:Int
 text:List UInt8
 val:Int
 gG:Int
def wC.row (t:wC):List I:=[.int .i64 t.kind,.str t.text,.int .i64 t.val,.int .i64 t.gG]
inductive a14 (α:Type) where
 |ok (a:α) (r:List wC)
 |err (p e:Int)
 |out
section
variable (wX:Int)
def gd (s:List UInt8):Int:=
 if s=[124,124] then 1 else if s=[38,38] then 2 else if s=[61,61] then 3 else if s=[33,61] then 3
 else if s=[60] then 4 else if s=[60,61] then 4 else if s=[62] then 4 else if s=[62,61] then 4
 else if s=[43] then 5 else if s=[45] then 5 else if s=[42] then 6 else if s=[47] then 6 else if s=[37] then 6 else 0
theorem F8 (s:List UInt8):0≤gd s∧gd s≤6:=by
 have key: ∀(c:Prop) [Decidable c] (a b:Int),(0≤a∧a≤6)→(0≤b∧b≤6)→0≤(if c then a else b)∧(if c then a else b)≤6:=by
  intro c _ a b U aa
  split
  ·exact U
  ·exact aa
 unfold gd
 repeat' (refine key _ _ _ (by decide) ?_)
 decide
end
def ay2 (l:List wC) (wX:Int):List I:=[.aq 4 (l.map wC.row),.int .i64 wX]
abbrev ps (l:List wC) (wX:Int):aN:=aN.of 1 0 [(0,83,ay2 l wX)] []
abbrev bw:=List UInt8
def jR:bw→bw
 |[]=>[]
 |c::s=>(if c.toNat=34∨c.toNat=92 then[92,c] else[c])++jR s
def vY (s:bw):bw:=[34]++jR s++[34]
def au.kind:au→Int| .mk k _ _ _ _ _=>k
def au.op:au→bw| .mk _ o _ _ _ _=>o
def ai.kind:ai→Int| .mk k _ _ _ _ _=>k
def ie (x:au) (s:bw) (k:Int):bw:=if x.kind=6∧gd x.op<k then[40]++s++[41] else s
def NZ:List bw→bw
 |s:: _=>[108,101,110,40]++s++[41]
 |[]=>[]
def Tt (o:bw):List au→List bw→bw
 |x:: _,s:: _=>o++ie x s 7
 | _,_=>[]
def Ix (o:bw):List au→List bw→bw
 |x::y:: _,s::u:: _=>ie x s (gd o)++[32]++o++[32]++ie y u (gd o+1)
 | _,_=>[]
def Bw (k:Int) (o m t:bw) (n:Int) (l:List au) (l3:List bw):bw:=
 if k=1 then Lib.itoa n else if k=2 then vY t else if k=3 then m else if k=4 then NZ l3 else if k=5 then Tt o l l3 else Ix o l l3
mutual
def cy:au→bw
 | .mk k o m t n l=>Bw k o m t n l (CI l)
def CI:List au→List bw
 |[]=>[]
 |x::l=>cy x::CI l
end
theorem CJ: ∀l,CI l=l.map cy
 |[]=>rfl
 |x::l=>by simp only[CI,bd4,CJ l]
def eZ (d:Nat) (ps:List bw):bw:=bc9 d 9++ps.flatten++[10]
def mw:List ai→Bool
 |[y]=>decide (y.kind=2)
 | _=>false
mutual
def ai.iL (d:Nat) (bG:bw):ai→bw
 | .mk k m x t a b=>if k=1 then eZ d [m,[32,61,32],cy x,[59]]
  else if k=3 then eZ d [[119,104,105,108,101,32],cy x,[32,116,105,109,101,115,32],Lib.itoa t,[32,123]]++ai.fW (d+1) a++eZ d [[125]]
  else eZ d [bG,cy x,[32,123]]++ai.fW (d+1) a++(if mw b=true then ai.vc d b else (if b.isEmpty=true then[] else eZ d [[125,32,101,108,115,101,32,123]]++ai.fW (d+1) b)++eZ d [[125]])
def ai.fW (d:Nat):List ai→bw
 |[]=>[]
 |x::l=>ai.iL d [105,102,32] x++ai.fW d l
def ai.vc (d:Nat):List ai→bw
 |[]=>[]
 |y:: _=>ai.iL d [125,32,101,108,115,101,32,105,102,32] y
end
def ua (k n:Int) (s:bw):bw:=if k=2 then vY s else Lib.itoa n
def kl (v:bJ):bw:=eZ 1 [[118,97,114,32],v.name,[58,32],if v.fB=2 then[116,101,120,116,32] else[105,110,116,32],Lib.itoa v.b3,[32,46,46,32],Lib.itoa v.af,[32,61,32],ua v.dG v.n v.s,[59]]
def jg (h:bS):bw:=eZ 1 [[111,110,32],h.da,[40],Lib.join h.ps [44,32],[41,32,102,114,111,109,32],h.peer,[32,123]]++ai.fW 2 h.body++eZ 1 [[125]]
def r9:List au→bw
 |[]=>[]
 |x:: _=>[32,119,104,101,114,101,32]++cy x
def jQ (o:cn):bw:=eZ 1 [[111,102,102,101,114,32],o.da,[40],Lib.join (o.args.map cy) [44,32],[41,32,116,111,32],o.peer,r9 o.eb,[59]]
def nQ (x:cQ):bw:=
 eZ 0 [[115,101,114,118,105,99,101,32],x.name,[32,112,108,97,121,115,32],x.bO,[32,111,102,32],x.fM,[32,123]]++(x.vars.map kl).flatten++(x.ao.map jg).flatten++(x.os.map jQ).flatten++eZ 0 [[125]]
end Go.ba
namespace Go.ba.T.N
open Go Go.ba Go.Proofs Go.RowKit
set_option maxRecDepth 100000
attribute [local irreducible] Go.ba.ar Go.ba.al Go.ba.bg
attribute [go_sem] wrap64 TI TJ Ot decide_true decide_false dst BA MC MD zm rT dw eA eB ia I.du oN I.py O2 O6 O4 OF OV OW OX OL OM ON OO OP OQ Oz OA OJ O5 O7 O3 OG OU OS OT OY O8 O9 OK OZ O0 OI OH O1 OR OC OB Oy Pa Pb OE OD fe Je Jd Env.get xJ xI FU Pe Pj zF mV xC FV Pf Ph Pg nH qX pu qa p8 p9 oZ o0 gS iK rH Mt e7 I.eP DN Jy Pn Po Pc Pd wK qs uv so tn I8 I7 DK I.cells I.ea I.flat b2 eY gg lh I.one I.iA ha nY na lE initFrom ov tv tu cond_true cond_false beq_self_eq_true Bool.not_true Bool.not_false beq_true beq_false eq_self if_true Option.some.injEq bb9 bc4 bg0 bg2 List.drop_succ_cons List.drop_zero List.set_cons_succ List.set_cons_zero bd6 bd2 bd8 and_self bf0 Option.map_none bd4 bg5 bd5 if_false bf6 Nat.add_zero true_and and_true be0 bc7 List.getElem?_cons_zero List.getElem?_cons_succ bc3 bc1 bd3 List.all_nil bd0 be3 qv rs bn1 bk7 bg3 bk8 Bool.or_false Bool.or_true Bool.false_or bk4
section
theorem fo (h:bS):h.row=[.str h.da,.str h.peer,.aq 1 (h.ps.map cf),.aq 11 (h.body.map ai.row)]:=by rw[bS.row,ai.l0]
theorem gv (o:cn):o.row=[.str o.da,.str o.peer,.aq 6 (o.args.map au.row),.aq 6 (o.eb.map au.row)]:=by rw[cn.row,au.l0,au.l0]
theorem dF (l:List bS):eY (l.map bS.row)=true:=ml (fun h=>by simp only[fo,b2,I.flat,dn,ai.cx,bc0]) l
theorem of_flat (l:List cn):eY (l.map cn.row)=true:=ml (fun o=>by simp only[gv,b2,I.flat,au.cx,bc0]) l
theorem N0 {R n b:Nat}(ag:R≤140737488355328) (hb:1≤b) (h:n*b≤R):n≤maxLen:=by
 have:n*1≤n*b:=bm7 n hb
 unfold maxLen
 omega
theorem dW (l:List bJ):eY (l.map bJ.row)=true:=ml (fun _=>rfl) l
theorem oa (x:cQ):x.eL= .agg [.str x.name,.str x.bO,.str x.fM,.aq 7 (x.vars.map bJ.row),.aq 4 (x.ao.map bS.row),.aq 4 (x.os.map cn.row)]:=rfl
theorem fX (x:cQ):x.cells=[.str x.name,.str x.bO,.str x.fM,.aq 7 (x.vars.map bJ.row),.aq 4 (x.ao.map bS.row),.aq 4 (x.os.map cn.row)]:=rfl
set_option maxHeartbeats 2000000 in
theorem Gm (s:List UInt8):Pure bb4 306 [.str s] (.int .i64 (gd s)):=by
 refine cw be Tryz.func306 Wy rfl rfl ?_
 unfold Lw RF
 simp(disch:=omega)only[go_sem,simprocAttr]
 (repeat' first|refine D.S ?_|refine D.fg true true ?_|refine al.nil ?_|refine ar.c9 ?_|refine D.W ?_|refine D.Z ?_|refine D.G ?_ ?_|refine D.X ‹_› ?_|refine D.ja ‹_› ?_|refine D.jb ‹_› ?_|intro h|refine D.C ?_ ?_)
 all_goals
  simp only[decide_eq_true_eq,decide_eq_false_iff_not]at*
  refine D.r ?_
  refine⟨_,rfl,.aF ?_ rfl,trivial,trivial⟩
  simp_all [gd,I.aF]
theorem NH {P:Program}{t:TypeId}{z:Value}{n b:Nat}(h:(P.info? t).map (fun i=>(i.zero,i.size,i.bytes))=some (some z,n,b)): ∃i,P.info? t=some i∧i.zero=some z∧i.size=n∧i.bytes=b:=by
 cases af:P.info? t with
 |none=>rw[af]at h; cases h
 |some i=>
  rw[af]at h
  simp only[bf0,Option.some.injEq,Prod.mk.injEq]at h
  exact⟨i,rfl,h.1,h.2.1,h.2.2⟩
def TR:Value:= .agg #[.int .i64 0,.string ByteArray.empty,.string ByteArray.empty,.string ByteArray.empty,.int .i64 0,.slice none 0 0]
def TS:Value:= .agg #[.int .i64 0,.string ByteArray.empty,.int .i64 0,.string ByteArray.empty,.string ByteArray.empty,.string ByteArray.empty,.int .i64 0,.slice none 0 0,.int .i64 0,.slice none 0 0,.slice none 0 0]
end
end Go.ba.T.N
namespace Go.ba.T.N
open Go Go.ba Go.Proofs Go.RowKit
set_option maxRecDepth 100000
attribute [local irreducible] Go.ba.ar Go.ba.al Go.ba.bg
section
theorem mb (l:List UInt8):eY (l.map ib)=true:=ml (fun _=>rfl) l
attribute [local go_sem] ib mb
abbrev qp (T:TypeId) (A:I) (out:List UInt8) (cs:List I):eJ:=[(0,T,A:: .own 0 1 (out.map ib)::cs)]
abbrev qu (out:List UInt8):eK:=[(0,.bY 5 1 (out.map ib).length)]
abbrev pO (T:TypeId) (A:I) (out:List UInt8) (cs:List I):aN:=aN.of 1 1 (qp T A out cs) (qu out)
def BT (T:TypeId) (cs:List I):Prop:=(T=302∧cs=[])∨(T=304∧∃d:Int,cs=[.int .i64 d])
theorem t199 {T:TypeId}{A:I}{cs:List I}(c4:BT T cs) (out:List UInt8) (dJ:Ch 0 A=true):bg bb4 360 [.ptr 0 0] (pO T A out cs) (dA (.c3 []) (qp T (.ptr 0 0) out cs) (qu out)):=by
 have aG:liesAt bb4 Tryz.prog.depth T ((I.own 0 1 (out.map ib)::cs).length+1|>(·/Tryz.prog.cellsOf T)) 0 (Tryz.zr.t 72) 1=true:=by
  rcases c4 with ⟨rfl,rfl⟩|⟨rfl,d,rfl⟩
  ·kernel_rfl
  ·kernel_rfl
 have:=Xs (c:=pO T A out cs) Tryz.ao9 Tryz.yI.toX72 (T:=T) (b:=0) (a:=A) (cs:= .own 0 1 (out.map ib)::cs) aG rfl dJ
 rw[FU]at this
 exact this.mono fun o c ⟨ap,ay⟩=>by subst ap ay; exact⟨rfl,⟨rfl,trivial⟩,rfl,trivial⟩
def Ax (A:I):Prop:=A= .dV (.pointer none)∨A= .ptr 0 0
theorem Iq {A:I}(h:Ax A):Ch 0 A=true:=by rcases h with rfl|rfl<;>rfl
theorem PQ {T:TypeId}{A:I}{cs:List I}(c4:BT T cs) (dJ:Ax A) (out s:List UInt8) (aG:out.length+s.length≤1000000000):bg bb4 307 [.ptr 0 0,.str s] (pO T A out cs) (dA (.c3 [.int .i64 (s.length:Int),.dV .nilIface]) (qp T (.ptr 0 0) (out++s) cs) (qu (out++s))):=by
 have e:=t199 c4 out (Iq dJ)
 have hb:rowsOf 1 (.str s)=some (s.map ib):=rfl
 have mr:(out.map ib).length=out.length:=bb5 _
 rcases dJ with rfl|rfl<;>rcases c4 with ⟨rfl,rfl⟩|⟨rfl,d,rfl⟩
 all_goals
  refine bg.intro be Tryz.func307 Wz ?_
  unfold Lx RG
  simp(disch:=omega)only[go_sem,simprocAttr]
  refine ak ?_
  refine D.F ⟨[0],[0]⟩ (e) ?_
  refine ak ?_
  (apply al.Ik (new:=s.map ib);(·simp(disch:=omega)only[go_sem,simprocAttr]<;>with_reducible rfl);(·simp(disch:=omega)only[go_sem,simprocAttr]<;>with_reducible rfl);(·exact hb);(·simp only[bb5]; omega);(·simp only[bb5,maxLen]; omega))
  refine ak ?_
  refine D.r ?_
  refine⟨rfl,⟨?_,trivial⟩,?_,trivial⟩
  ·simp only[be5]; rfl
  ·simp only[be5,bb7]; rfl
theorem xK {T:TypeId}{A:I}{cs:List I}(c4:BT T cs) (dJ:Ax A) (out:List UInt8) (c:UInt8) (z:Int) (aw:(c.toNat:Int)=z) (aG:out.length+1≤1000000000):bg bb4 309 [.ptr 0 0,.int .u8 z] (pO T A out cs) (dA (.dV .nilIface) (qp T (.ptr 0 0) (out++[c]) cs) (qu (out++[c]))):=by
 have e:=t199 c4 out (Iq dJ)
 have mr:(out.map ib).length=out.length:=bb5 _
 subst aw
 rcases dJ with rfl|rfl<;>rcases c4 with ⟨rfl,rfl⟩|⟨rfl,d,rfl⟩
 all_goals
  refine bg.intro be Tryz.func309 WA ?_
  unfold Ly RH
  simp(disch:=omega)only[go_sem,simprocAttr]
  refine ak ?_
  refine D.F ⟨[0],[0]⟩ (e) ?_
  refine ak ?_
  refine D.iE ?_
  refine ak ?_
  refine D.r ?_
  refine⟨rfl,⟨?_,trivial⟩,?_,trivial⟩
  ·simp only[be5]; rfl
  ·simp only[be5,bb7]; rfl
end
section
attribute [local go_sem] ib mb
theorem t129 {T:TypeId}{A:I}{cs:List I}(dJ:True) (out:List UInt8) (aW:out≠[]):bg bb4 223 [.ptr 0 0] (pO T A out cs) (dA (.str out) [] []):=by
 have:=aO1 (c:=pO T A out cs) Tryz.ao8 Tryz.yI (T:=T) (b:=0) (t:=0) (cs:=A:: .own 0 1 (out.map ib)::cs) (l:=out) rfl rfl (by simp only[pO,qu,bb5]; rfl) aW
 exact this.mono fun o c ⟨ap,ay⟩=>by subst ap; exact⟨rfl,trivial,trivial⟩
theorem Gt: ∀a b:bw,jR (a++b)=jR a++jR b
 |[],b=>rfl
 |c::a,b=>by simp only[bd2,jR,Gt a b,bc8]
theorem xM: ∀a:bw,(jR a).length≤2*a.length
 |[]=>bc1 _
 |c::a=>by
  have:=xM a
  simp only[jR,bb7,bb9]
  split<;>simp only[bb9,bc4]<;>omega
theorem aG2 {s:bw}{i:Nat}{c:UInt8}(h:s[i]? =some c):jR (s.take (i+1))=jR (s.take i)++(if c.toNat=34∨c.toNat=92 then[92,c] else[c]):=by
 rw[bf5,h,Gt]
 simp only[bp8,jR,bd8]
theorem PR (s:bw) (ao:s.length≤100000000):Pure bb4 311 [.str s] (.str (vY s)):=by
 refine cw be Tryz.func311 WC rfl rfl ?_
 unfold Lz RJ
 simp(disch:=omega)only[go_sem,simprocAttr]
 refine D.fg true true ?_
 refine ar.c9 ?_
 refine b0 ?_
 refine D.fg true true ?_
 refine ar.c9 ?_
 refine b0 ?_
 have dD:BT 302 []:= .inl ⟨rfl,rfl⟩
 refine ar.vi 0 1 1 5 rfl rfl (by decide) ?_
 simp(disch:=omega)only[go_sem,simprocAttr]
 refine ak ?_
 refine D.F ⟨[0],[0]⟩ (xK dD (.inl rfl) [] 34 34 rfl (by decide)) ?_
 refine ak ?_
 refine ar.cU (X:=Nat) 0 (fun i=>[(0,.str s),(3,.ptr 0 0),(7,.int .i64 (s.length:Int)),(8,.int .i64 (i:Int))]) (fun i=>qp 302 (.ptr 0 0) ([34]++jR (s.take i)) []) (fun i=>qu ([34]++jR (s.take i))) (fun i=>i≤s.length) (fun i=>s.length-i) (bc3 _) ⟨rfl,rfl,rfl,rfl,trivial⟩ ⟨rfl,trivial⟩ ⟨rfl,trivial⟩ ?_
 intro i af
 try simp only at af ⊢
 have Fm:=xM (s.take i)
 rw[be9]at Fm
 cases ad:s[i]? with
 |some c=>
  have cz:=(List.getElem?_eq_some_iff.1 ad).1
  have d1:(i:Int)<(s.length:Int):=by omega
  have gm:=aG2 ad
  obtain⟨Y,iq⟩: ∃Y,Y=[34]++jR (s.take i):=⟨_,rfl⟩
  have xa:Y.length≤400000000:=by rw[iq]; simp only[bb7,bb9,bc4]; omega
  rw[←iq]
  by_cases EI:c.toNat=34∨c.toNat=92
  ·rw[if_pos EI]at gm
   have qK:34::jR (s.take (i+1))=Y++[92]++[c]:=by rw[gm,iq]; simp
   clear iq gm
   rcases EI with h|h
   focus
    have d2:(c.toNat:Int)=34:=by omega
    (repeat' first|(apply al.s rfl;(·simp(disch:=omega)only[go_sem,simprocAttr,d1,d2]<;>with_reducible rfl))|(apply ar.s true true;(·simp(disch:=omega)only[go_sem,simprocAttr,d1,d2]<;>with_reducible rfl))|apply al.nil|(refine ar.c9 ?_)|(apply al.ft;(·simp(disch:=omega)only[go_sem,simprocAttr,d1,d2]<;>with_reducible rfl))|(apply al.fu;(·rfl);(·simp(disch:=omega)only[go_sem,simprocAttr,d1,d2]<;>with_reducible rfl))|(apply al.gs;(·simp(disch:=omega)only[go_sem,simprocAttr,d1,d2]<;>with_reducible rfl))|((first|apply al.fw|apply al.fx|apply al.fy);(·simp(disch:=omega)only[go_sem,simprocAttr,d1,d2]<;>with_reducible rfl);(·simp(disch:=omega)only[go_sem,simprocAttr,d1,d2]<;>with_reducible rfl);(·assumption);(·omega))|intro h)
   rotate_left
   focus
    have d2: ¬(c.toNat:Int)=34:=by omega
    have d3:(c.toNat:Int)=92:=by omega
    (repeat' first|(apply al.s rfl;(·simp(disch:=omega)only[go_sem,simprocAttr,d1,d2,d3]<;>with_reducible rfl))|(apply ar.s true true;(·simp(disch:=omega)only[go_sem,simprocAttr,d1,d2,d3]<;>with_reducible rfl))|apply al.nil|(refine ar.c9 ?_)|(apply al.ft;(·simp(disch:=omega)only[go_sem,simprocAttr,d1,d2,d3]<;>with_reducible rfl))|(apply al.fu;(·rfl);(·simp(disch:=omega)only[go_sem,simprocAttr,d1,d2,d3]<;>with_reducible rfl))|(apply al.gs;(·simp(disch:=omega)only[go_sem,simprocAttr,d1,d2,d3]<;>with_reducible rfl))|((first|apply al.fw|apply al.fx|apply al.fy);(·simp(disch:=omega)only[go_sem,simprocAttr,d1,d2,d3]<;>with_reducible rfl);(·simp(disch:=omega)only[go_sem,simprocAttr,d1,d2,d3]<;>with_reducible rfl);(·assumption);(·omega))|intro h)
   all_goals
    refine D.F ⟨[0],[0]⟩ (xK dD (.inr rfl) Y 92 92 rfl (by omega)) ?_
    refine ak ?_
    refine D.F ⟨[0],[0]⟩ (xK dD (.inr rfl) (Y++[92]) c _ rfl (by simp only[bb7,bb9,bc4]; omega)) ?_
    refine ak ?_
    refine ar.eC (i+1) (by omega) ⟨rfl,rfl,rfl,by simp only[bb8]; rfl,trivial⟩ (by rw[qK]; exact⟨rfl,trivial⟩) (by rw[qK]; exact⟨rfl,trivial⟩) rfl rfl (by show s.length-(i+1)<s.length-i; omega)
  ·rw[if_neg EI]at gm
   have qK:34::jR (s.take (i+1))=Y++[c]:=by rw[gm,iq]; simp
   clear iq gm
   have d2: ¬(c.toNat:Int)=34:=by omega
   have d3: ¬(c.toNat:Int)=92:=by omega
   (have ae:=d1;have z2:=d2;have z3:=d3;refine ep ?_;clear ae z2 z3)
   refine D.F ⟨[0],[0]⟩ (xK dD (.inr rfl) Y c _ rfl (by omega)) ?_
   refine ak ?_
   refine ar.eC (i+1) (by omega) ⟨rfl,rfl,rfl,by simp only[bb8]; rfl,trivial⟩ (by rw[qK]; exact⟨rfl,trivial⟩) (by rw[qK]; exact⟨rfl,trivial⟩) rfl rfl (by show s.length-(i+1)<s.length-i; omega)
 |none=>
  have b4:=List.getElem?_eq_none_iff.1 ad
  have bN:i=s.length:=by omega
  subst bN
  have d1: ¬(s.length:Int)<(s.length:Int):=by omega
  rw[bf1]at Fm ⊢
  (have ae:=d1;refine bt ?_;clear ae)
  refine D.F ⟨[0],[0]⟩ (xK dD (.inr rfl) (34::jR s) 34 34 rfl (by simp only[bb9]; omega)) ?_
  refine ak ?_
  refine D.F ⟨[0],[0]⟩ (t129 (T:=302) (A:= .ptr 0 0) (cs:=[]) trivial (34::jR s++[34]) (by simp)) ?_
  refine ak ?_
  exact D.rx
end
section
attribute [local go_sem] au.cO au.cx au.dd ai.cO ai.cx ai.dd cf dn fo gv dF of_flat bJ.row dW
theorem D.tg {cY:Program}{anns:List I}{l:List bK}{env:Env}{c cb:aN}{K:Env→aN→Prop}{Rp:I→aN→Prop}{f:FuncId}{args:List aJ}{x:aJ}{dS cap:List I}{v bD:I}{d:Nat}(s:bx){fP kR:eJ}{fY ll:eK}{n q:Nat}(aT:c6 cY f=true) (h:bg cY f dS (aN.of n q fP fY) (dA v kR ll)) (av:al cY anns l ((d,bD)::env) cb K Rp)
  (ab:bl env x= .fn f cap:=by simp (disch:=omega) only[go_sem,simprocAttr]<;>with_reducible rfl)
  (an:(nodupB s.b&&nodupB s.t&&s.b.all (fun x=>Nat.blt x c.bP)&&s.t.all (fun x=>Nat.blt x c.bh))=true:=by simp (disch:=omega) only[go_sem,simprocAttr]<;>rfl) (a1:s.b.length=n:=by rfl) (aL:s.t.length=q:=by rfl) (hb:(dw n q dS&&(eA n q fP&&eB n q fY))=true:=by simp (disch:=omega) only[go_sem,simprocAttr]<;>rfl) (U:(eA n q kR&&(eB n q ll&&v.du n q))=true:=by simp (disch:=omega) only[go_sem,simprocAttr]<;>rfl)
  (dD:nw c.H.aY s fP:=by repeat first|exact trivial|refine⟨rfl,?_⟩) (c4:nx c.H.tok s fY:=by repeat first|exact trivial|refine⟨rfl,?_⟩) (aS:args.map (bl env)++cap=e7 s dS:=by simp (disch:=omega) only[go_sem,simprocAttr]<;>rfl) (ad:v.eP s=bD:=by simp (disch:=omega) only[go_sem,simprocAttr]<;>with_reducible rfl) (hu:c.kk s kR ll=cb:=by simp (disch:=omega) only[go_sem,simprocAttr]<;>with_reducible rfl):al cY anns (⟨some d,none,.gj x args⟩::l) env c K Rp:=by
 subst ad hu
 exact al.HD rfl ab aT (bg.o6 s h a1 aL an dD c4 hb U rfl) aS av
def dj {α:Type}(g:α→Bool):List α→Nat→Int
 |[],_=> -1
 |x::l,i=>bif g x then dj g l (i+1) else (i:Int)
theorem PD {α:Type}(g:α→Bool): ∀(l:List α) (i:Nat),0≤dj g l i↔l.all g=false
 |[],_=>by simp [dj]
 |x::l,i=>by
  simp only[dj,bd3]
  have:=PD g l (i+1)
  cases h:g x with
  |true=>simpa using this
  |false=>simp
theorem uo {α:Type}(g:α→Bool) (l:List α) (i:Nat):decide (0≤dj g l i)= !(l.all g):=by
 have:=PD g l i
 cases h:l.all g with
 |true=>rw[h]at this; simpa using this
 |false=>rw[h]at this; simpa using this
theorem al7:c6 bb4 305=true:=by kernel_rfl
theorem aC1 {f:FuncId}(aT:c6 bb4 f=true) (v:au) (b:Bool) (h:Pure bb4 f [.agg (au.row v)] (.bool b)):bg bb4 305 [.agg (au.row v),.ptr 0 0] (aN.of 1 0 [(0,296,[.fn f []])] []) (dA (.bool (!b)) [(0,296,[.fn f []])] []):=by
 rcases v with ⟨fD,fH,fF,fI,fG,fE⟩
 simp(disch:=omega)only[go_sem,simprocAttr]at h
 refine bg.intro be Tryz.func305 Wx ?_
 unfold Lv RE
 simp(disch:=omega)only[go_sem,simprocAttr]
 refine ak ?_
 refine D.V (aT) (h) ?_
 refine ak ?_
 refine D.r ?_
 exact⟨rfl,⟨rfl,trivial⟩,trivial⟩
theorem aC6 {f:FuncId}(aT:c6 bb4 f=true) (g:au→Bool) (l:List (au)) (aG:l.length≤1000000000000) (h: ∀v∈l,Pure bb4 f [.agg (au.row v)] (.bool (g v))):bg bb4 359 [.aq 6 (l.map au.row),.fn 305 [.ptr 0 0]] (aN.of 1 0 [(0,296,[.fn f []])] []) (dA (.int .i64 (dj g l 0)) [(0,296,[.fn f []])] []):=by
 refine bg.intro be Tryz.func359 WO ?_
 unfold LJ RV
 simp(disch:=omega)only[go_sem,simprocAttr]
 refine ak ?_
 refine ar.cU (X:=Nat) 0 (fun i=>[(0,.aq 6 (l.map au.row)),(1,.fn 305 [.ptr 0 0]),(7,.int .i64 ((l.map au.row).length:Int)),(8,.int .i64 (i:Int))]) (fun _=>[(0,296,[.fn f []])]) (fun _=>[]) (fun i=>i≤l.length∧dj g (l.drop i) i=dj g l 0) (fun i=>l.length-i) ⟨bc3 _,rfl⟩ ⟨rfl,rfl,rfl,rfl,trivial⟩ ⟨rfl,trivial⟩ trivial ?_
 rintro i ⟨af,aw⟩
 try simp only at af aw ⊢
 cases ad:l[i]? with
 |some v=>
  have cz:=(List.getElem?_eq_some_iff.1 ad).1
  rw[eN ad]at aw
  simp only[dj]at aw
  have d1:(i:Int)<((l.map au.row).length:Int):=by rw[bb5]; omega
  have e:=aC1 aT v (g v) (h v (bc2 ad))
  generalize g v=b at e aw
  clear h
  rcases v with ⟨fD,fH,fF,fI,fG,fE⟩
  simp(disch:=omega)only[go_sem,simprocAttr]at e
  (have ae:=d1;refine bt ?_;clear ae)
  refine D.tg ⟨[0],[]⟩ al7 e ?_
  cases b
  ·refine ak ?_
   refine D.r ?_
   exact⟨by rw[←aw]; rfl,⟨rfl,trivial⟩,trivial⟩
  ·refine ak ?_
   refine ar.eC (i+1) ⟨by omega,aw⟩ ⟨rfl,rfl,rfl,by simp only[bb8]; rfl,trivial⟩ ⟨rfl,trivial⟩ trivial rfl rfl (by show l.length-(i+1)<l.length-i; omega)
 |none=>
  have b4:=List.getElem?_eq_none_iff.1 ad
  have bN:i=l.length:=by omega
  subst bN
  have d1: ¬(l.length:Int)<((l.map au.row).length:Int):=by rw[bb5]; omega
  rw[be6]at aw
  (have ae:=d1;refine bt ?_;clear ae)
  refine D.r ?_
  exact⟨by rw[←aw]; rfl,⟨rfl,trivial⟩,trivial⟩
theorem aC0 {f:FuncId}(aT:c6 bb4 f=true) (g:au→Bool) (l:List (au)) (aG:l.length≤1000000000000) (h: ∀v∈l,Pure bb4 f [.agg (au.row v)] (.bool (g v))):bg bb4 304 [.aq 6 (l.map au.row),.fn 305 [.ptr 0 0]] (aN.of 1 0 [(0,296,[.fn f []])] []) (dA (.bool (!(l.all g))) [(0,296,[.fn f []])] []):=by
 have e:=aC6 aT g l aG h
 refine bg.intro be Tryz.func304 Ww ?_
 unfold Lu RD
 simp(disch:=omega)only[go_sem,simprocAttr]
 refine ak ?_
 refine D.F ⟨[0],[]⟩ (e) ?_
 refine ak ?_
 refine D.r ?_
 exact⟨by rw[←uo g l 0],⟨rfl,trivial⟩,trivial⟩
theorem Gh {f:FuncId}(aT:c6 bb4 f=true) (g:au→Bool) (l:List (au)) (aG:l.length≤1000000000000) (h: ∀v∈l,Pure bb4 f [.agg (au.row v)] (.bool (g v))):Pure bb4 214 [.aq 6 (l.map au.row),.fn f []] (.bool (l.all g)):=by
 have e:=aC0 aT g l aG h
 refine cw be Tryz.func214 VY (by simp only[b2,I.flat,au.cx,bc0]) rfl ?_
 unfold KX Q4
 simp(disch:=omega)only[go_sem,simprocAttr]
 refine ak ?_
 refine D.F ⟨[0],[]⟩ (e) ?_
 refine ak ?_
 refine D.r ?_
 exact⟨_,rfl,.aF (by rw[bn5]; rfl) rfl,trivial,trivial⟩
theorem al6:c6 bb4 301=true:=by kernel_rfl
theorem aB8 {f:FuncId}(aT:c6 bb4 f=true) (v:ai) (b:Bool) (h:Pure bb4 f [.agg (ai.row v)] (.bool b)):bg bb4 301 [.agg (ai.row v),.ptr 0 0] (aN.of 1 0 [(0,293,[.fn f []])] []) (dA (.bool (!b)) [(0,293,[.fn f []])] []):=by
 rcases v with ⟨k,gp,⟨fD,fH,fF,fI,fG,fE⟩,aP9,ig,gV⟩
 simp(disch:=omega)only[go_sem,simprocAttr]at h
 refine bg.intro be Tryz.func301 Wu ?_
 unfold Ls RB
 simp(disch:=omega)only[go_sem,simprocAttr]
 refine ak ?_
 refine D.V (aT) (h) ?_
 refine ak ?_
 refine D.r ?_
 exact⟨rfl,⟨rfl,trivial⟩,trivial⟩
theorem aC5 {f:FuncId}(aT:c6 bb4 f=true) (g:ai→Bool) (l:List (ai)) (aG:l.length≤1000000000000) (h: ∀v∈l,Pure bb4 f [.agg (ai.row v)] (.bool (g v))):bg bb4 358 [.aq 11 (l.map ai.row),.fn 301 [.ptr 0 0]] (aN.of 1 0 [(0,293,[.fn f []])] []) (dA (.int .i64 (dj g l 0)) [(0,293,[.fn f []])] []):=by
 refine bg.intro be Tryz.func358 WN ?_
 unfold LI RU
 simp(disch:=omega)only[go_sem,simprocAttr]
 refine ak ?_
 refine ar.cU (X:=Nat) 0 (fun i=>[(0,.aq 11 (l.map ai.row)),(1,.fn 301 [.ptr 0 0]),(7,.int .i64 ((l.map ai.row).length:Int)),(8,.int .i64 (i:Int))]) (fun _=>[(0,293,[.fn f []])]) (fun _=>[]) (fun i=>i≤l.length∧dj g (l.drop i) i=dj g l 0) (fun i=>l.length-i) ⟨bc3 _,rfl⟩ ⟨rfl,rfl,rfl,rfl,trivial⟩ ⟨rfl,trivial⟩ trivial ?_
 rintro i ⟨af,aw⟩
 try simp only at af aw ⊢
 cases ad:l[i]? with
 |some v=>
  have cz:=(List.getElem?_eq_some_iff.1 ad).1
  rw[eN ad]at aw
  simp only[dj]at aw
  have d1:(i:Int)<((l.map ai.row).length:Int):=by rw[bb5]; omega
  have e:=aB8 aT v (g v) (h v (bc2 ad))
  generalize g v=b at e aw
  clear h
  rcases v with ⟨k,gp,⟨fD,fH,fF,fI,fG,fE⟩,aP9,ig,gV⟩
  simp(disch:=omega)only[go_sem,simprocAttr]at e
  (have ae:=d1;refine bt ?_;clear ae)
  refine D.tg ⟨[0],[]⟩ al6 e ?_
  cases b
  ·refine ak ?_
   refine D.r ?_
   exact⟨by rw[←aw]; rfl,⟨rfl,trivial⟩,trivial⟩
  ·refine ak ?_
   refine ar.eC (i+1) ⟨by omega,aw⟩ ⟨rfl,rfl,rfl,by simp only[bb8]; rfl,trivial⟩ ⟨rfl,trivial⟩ trivial rfl rfl (by show l.length-(i+1)<l.length-i; omega)
 |none=>
  have b4:=List.getElem?_eq_none_iff.1 ad
  have bN:i=l.length:=by omega
  subst bN
  have d1: ¬(l.length:Int)<((l.map ai.row).length:Int):=by rw[bb5]; omega
  rw[be6]at aw
  (have ae:=d1;refine bt ?_;clear ae)
  refine D.r ?_
  exact⟨by rw[←aw]; rfl,⟨rfl,trivial⟩,trivial⟩
theorem aB6 {f:FuncId}(aT:c6 bb4 f=true) (g:ai→Bool) (l:List (ai)) (aG:l.length≤1000000000000) (h: ∀v∈l,Pure bb4 f [.agg (ai.row v)] (.bool (g v))):bg bb4 300 [.aq 11 (l.map ai.row),.fn 301 [.ptr 0 0]] (aN.of 1 0 [(0,293,[.fn f []])] []) (dA (.bool (!(l.all g))) [(0,293,[.fn f []])] []):=by
 have e:=aC5 aT g l aG h
 refine bg.intro be Tryz.func300 Wt ?_
 unfold Lr RA
 simp(disch:=omega)only[go_sem,simprocAttr]
 refine ak ?_
 refine D.F ⟨[0],[]⟩ (e) ?_
 refine ak ?_
 refine D.r ?_
 exact⟨by rw[←uo g l 0],⟨rfl,trivial⟩,trivial⟩
theorem Cp {f:FuncId}(aT:c6 bb4 f=true) (g:ai→Bool) (l:List (ai)) (aG:l.length≤1000000000000) (h: ∀v∈l,Pure bb4 f [.agg (ai.row v)] (.bool (g v))):Pure bb4 207 [.aq 11 (l.map ai.row),.fn f []] (.bool (l.all g)):=by
 have e:=aB6 aT g l aG h
 refine cw be Tryz.func207 VQ (by simp only[b2,I.flat,ai.cx,bc0]) rfl ?_
 unfold KQ QW
 simp(disch:=omega)only[go_sem,simprocAttr]
 refine ak ?_
 refine D.F ⟨[0],[]⟩ (e) ?_
 refine ak ?_
 refine D.r ?_
 exact⟨_,rfl,.aF (by rw[bn5]; rfl) rfl,trivial,trivial⟩
theorem ak7:c6 bb4 199=true:=by kernel_rfl
theorem ay9 {f:FuncId}(aT:c6 bb4 f=true) (v:bJ) (b:Bool) (h:Pure bb4 f [.agg (bJ.row v)] (.bool b)):bg bb4 199 [.agg (bJ.row v),.ptr 0 0] (aN.of 1 0 [(0,211,[.fn f []])] []) (dA (.bool (!b)) [(0,211,[.fn f []])] []):=by
 simp(disch:=omega)only[go_sem,simprocAttr]at h
 refine bg.intro be Tryz.func199 VI ?_
 unfold KI QO
 simp(disch:=omega)only[go_sem,simprocAttr]
 refine ak ?_
 refine D.V (aT) (h) ?_
 refine ak ?_
 refine D.r ?_
 exact⟨rfl,⟨rfl,trivial⟩,trivial⟩
theorem aA9 {f:FuncId}(aT:c6 bb4 f=true) (g:bJ→Bool) (l:List (bJ)) (aG:l.length≤1000000000000) (h: ∀v∈l,Pure bb4 f [.agg (bJ.row v)] (.bool (g v))):bg bb4 261 [.aq 7 (l.map bJ.row),.fn 199 [.ptr 0 0]] (aN.of 1 0 [(0,211,[.fn f []])] []) (dA (.int .i64 (dj g l 0)) [(0,211,[.fn f []])] []):=by
 refine bg.intro be Tryz.func261 IW ?_
 unfold Ee GA
 simp(disch:=omega)only[go_sem,simprocAttr]
 refine ak ?_
 refine ar.cU (X:=Nat) 0 (fun i=>[(0,.aq 7 (l.map bJ.row)),(1,.fn 199 [.ptr 0 0]),(7,.int .i64 ((l.map bJ.row).length:Int)),(8,.int .i64 (i:Int))]) (fun _=>[(0,211,[.fn f []])]) (fun _=>[]) (fun i=>i≤l.length∧dj g (l.drop i) i=dj g l 0) (fun i=>l.length-i) ⟨bc3 _,rfl⟩ ⟨rfl,rfl,rfl,rfl,trivial⟩ ⟨rfl,trivial⟩ trivial ?_
 rintro i ⟨af,aw⟩
 try simp only at af aw ⊢
 cases ad:l[i]? with
 |some v=>
  have cz:=(List.getElem?_eq_some_iff.1 ad).1
  rw[eN ad]at aw
  simp only[dj]at aw
  have d1:(i:Int)<((l.map bJ.row).length:Int):=by rw[bb5]; omega
  have e:=ay9 aT v (g v) (h v (bc2 ad))
  generalize g v=b at e aw
  clear h
  simp(disch:=omega)only[go_sem,simprocAttr]at e
  (have ae:=d1;refine bt ?_;clear ae)
  refine D.tg ⟨[0],[]⟩ ak7 e ?_
  cases b
  ·refine ak ?_
   refine D.r ?_
   exact⟨by rw[←aw]; rfl,⟨rfl,trivial⟩,trivial⟩
  ·refine ak ?_
   refine ar.eC (i+1) ⟨by omega,aw⟩ ⟨rfl,rfl,rfl,by simp only[bb8]; rfl,trivial⟩ ⟨rfl,trivial⟩ trivial rfl rfl (by show l.length-(i+1)<l.length-i; omega)
 |none=>
  have b4:=List.getElem?_eq_none_iff.1 ad
  have bN:i=l.length:=by omega
  subst bN
  have d1: ¬(l.length:Int)<((l.map bJ.row).length:Int):=by rw[bb5]; omega
  rw[be6]at aw
  (have ae:=d1;refine bt ?_;clear ae)
  refine D.r ?_
  exact⟨by rw[←aw]; rfl,⟨rfl,trivial⟩,trivial⟩
theorem ay8 {f:FuncId}(aT:c6 bb4 f=true) (g:bJ→Bool) (l:List (bJ)) (aG:l.length≤1000000000000) (h: ∀v∈l,Pure bb4 f [.agg (bJ.row v)] (.bool (g v))):bg bb4 162 [.aq 7 (l.map bJ.row),.fn 199 [.ptr 0 0]] (aN.of 1 0 [(0,211,[.fn f []])] []) (dA (.bool (!(l.all g))) [(0,211,[.fn f []])] []):=by
 have e:=aA9 aT g l aG h
 refine bg.intro be Tryz.func162 IR ?_
 unfold D7 Gv
 simp(disch:=omega)only[go_sem,simprocAttr]
 refine ak ?_
 refine D.F ⟨[0],[]⟩ (e) ?_
 refine ak ?_
 refine D.r ?_
 exact⟨by rw[←uo g l 0],⟨rfl,trivial⟩,trivial⟩
theorem aC8 {f:FuncId}(aT:c6 bb4 f=true) (g:bJ→Bool) (l:List (bJ)) (aG:l.length≤1000000000000) (h: ∀v∈l,Pure bb4 f [.agg (bJ.row v)] (.bool (g v))):Pure bb4 110 [.aq 7 (l.map bJ.row),.fn f []] (.bool (l.all g)):=by
 have e:=ay8 aT g l aG h
 refine cw be Tryz.func110 U2 (by simp only[b2,I.flat,dW,bc0]) rfl ?_
 unfold J3 P8
 simp(disch:=omega)only[go_sem,simprocAttr]
 refine ak ?_
 refine D.F ⟨[0],[]⟩ (e) ?_
 refine ak ?_
 refine D.r ?_
 exact⟨_,rfl,.aF (by rw[bn5]; rfl) rfl,trivial,trivial⟩
theorem ak8:c6 bb4 202=true:=by kernel_rfl
theorem az1 {f:FuncId}(aT:c6 bb4 f=true) (v:bS) (b:Bool) (h:Pure bb4 f [.agg (bS.row v)] (.bool b)):bg bb4 202 [.agg (bS.row v),.ptr 0 0] (aN.of 1 0 [(0,198,[.fn f []])] []) (dA (.bool (!b)) [(0,198,[.fn f []])] []):=by
 simp(disch:=omega)only[go_sem,simprocAttr]at h
 refine bg.intro be Tryz.func202 VL ?_
 unfold KL QR
 simp(disch:=omega)only[go_sem,simprocAttr]
 refine ak ?_
 refine D.V (aT) (h) ?_
 refine ak ?_
 refine D.r ?_
 exact⟨rfl,⟨rfl,trivial⟩,trivial⟩
theorem aB0 {f:FuncId}(aT:c6 bb4 f=true) (g:bS→Bool) (l:List (bS)) (aG:l.length≤1000000000000) (h: ∀v∈l,Pure bb4 f [.agg (bS.row v)] (.bool (g v))):bg bb4 183 [.aq 4 (l.map bS.row),.fn 202 [.ptr 0 0]] (aN.of 1 0 [(0,198,[.fn f []])] []) (dA (.int .i64 (dj g l 0)) [(0,198,[.fn f []])] []):=by
 refine bg.intro be Tryz.func183 Dy ?_
 unfold Be Cu
 simp(disch:=omega)only[go_sem,simprocAttr]
 refine ak ?_
 refine ar.cU (X:=Nat) 0 (fun i=>[(0,.aq 4 (l.map bS.row)),(1,.fn 202 [.ptr 0 0]),(7,.int .i64 ((l.map bS.row).length:Int)),(8,.int .i64 (i:Int))]) (fun _=>[(0,198,[.fn f []])]) (fun _=>[]) (fun i=>i≤l.length∧dj g (l.drop i) i=dj g l 0) (fun i=>l.length-i) ⟨bc3 _,rfl⟩ ⟨rfl,rfl,rfl,rfl,trivial⟩ ⟨rfl,trivial⟩ trivial ?_
 rintro i ⟨af,aw⟩
 try simp only at af aw ⊢
 cases ad:l[i]? with
 |some v=>
  have cz:=(List.getElem?_eq_some_iff.1 ad).1
  rw[eN ad]at aw
  simp only[dj]at aw
  have d1:(i:Int)<((l.map bS.row).length:Int):=by rw[bb5]; omega
  have e:=az1 aT v (g v) (h v (bc2 ad))
  generalize g v=b at e aw
  clear h
  simp(disch:=omega)only[go_sem,simprocAttr]at e
  (have ae:=d1;refine bt ?_;clear ae)
  refine D.tg ⟨[0],[]⟩ ak8 e ?_
  cases b
  ·refine ak ?_
   refine D.r ?_
   exact⟨by rw[←aw]; rfl,⟨rfl,trivial⟩,trivial⟩
  ·refine ak ?_
   refine ar.eC (i+1) ⟨by omega,aw⟩ ⟨rfl,rfl,rfl,by simp only[bb8]; rfl,trivial⟩ ⟨rfl,trivial⟩ trivial rfl rfl (by show l.length-(i+1)<l.length-i; omega)
 |none=>
  have b4:=List.getElem?_eq_none_iff.1 ad
  have bN:i=l.length:=by omega
  subst bN
  have d1: ¬(l.length:Int)<((l.map bS.row).length:Int):=by rw[bb5]; omega
  rw[be6]at aw
  (have ae:=d1;refine bt ?_;clear ae)
  refine D.r ?_
  exact⟨by rw[←aw]; rfl,⟨rfl,trivial⟩,trivial⟩
theorem az0 {f:FuncId}(aT:c6 bb4 f=true) (g:bS→Bool) (l:List (bS)) (aG:l.length≤1000000000000) (h: ∀v∈l,Pure bb4 f [.agg (bS.row v)] (.bool (g v))):bg bb4 96 [.aq 4 (l.map bS.row),.fn 202 [.ptr 0 0]] (aN.of 1 0 [(0,198,[.fn f []])] []) (dA (.bool (!(l.all g))) [(0,198,[.fn f []])] []):=by
 have e:=aB0 aT g l aG h
 refine bg.intro be Tryz.func96 DE ?_
 unfold wW CB
 simp(disch:=omega)only[go_sem,simprocAttr]
 refine ak ?_
 refine D.F ⟨[0],[]⟩ (e) ?_
 refine ak ?_
 refine D.r ?_
 exact⟨by rw[←uo g l 0],⟨rfl,trivial⟩,trivial⟩
theorem aD0 {f:FuncId}(aT:c6 bb4 f=true) (g:bS→Bool) (l:List (bS)) (aG:l.length≤1000000000000) (h: ∀v∈l,Pure bb4 f [.agg (bS.row v)] (.bool (g v))):Pure bb4 112 [.aq 4 (l.map bS.row),.fn f []] (.bool (l.all g)):=by
 have e:=az0 aT g l aG h
 refine cw be Tryz.func112 U4 (by simp only[b2,I.flat,dF,bc0]) rfl ?_
 unfold J5 Qa
 simp(disch:=omega)only[go_sem,simprocAttr]
 refine ak ?_
 refine D.F ⟨[0],[]⟩ (e) ?_
 refine ak ?_
 refine D.r ?_
 exact⟨_,rfl,.aF (by rw[bn5]; rfl) rfl,trivial,trivial⟩
theorem al0:c6 bb4 210=true:=by kernel_rfl
theorem az5 {f:FuncId}(aT:c6 bb4 f=true) (v:cn) (b:Bool) (h:Pure bb4 f [.agg (cn.row v)] (.bool b)):bg bb4 210 [.agg (cn.row v),.ptr 0 0] (aN.of 1 0 [(0,213,[.fn f []])] []) (dA (.bool (!b)) [(0,213,[.fn f []])] []):=by
 simp(disch:=omega)only[go_sem,simprocAttr]at h
 refine bg.intro be Tryz.func210 VU ?_
 unfold KT Q0
 simp(disch:=omega)only[go_sem,simprocAttr]
 refine ak ?_
 refine D.V (aT) (h) ?_
 refine ak ?_
 refine D.r ?_
 exact⟨rfl,⟨rfl,trivial⟩,trivial⟩
theorem aB9 {f:FuncId}(aT:c6 bb4 f=true) (g:cn→Bool) (l:List (cn)) (aG:l.length≤1000000000000) (h: ∀v∈l,Pure bb4 f [.agg (cn.row v)] (.bool (g v))):bg bb4 302 [.aq 4 (l.map cn.row),.fn 210 [.ptr 0 0]] (aN.of 1 0 [(0,213,[.fn f []])] []) (dA (.int .i64 (dj g l 0)) [(0,213,[.fn f []])] []):=by
 refine bg.intro be Tryz.func302 Wv ?_
 unfold Lt RC
 simp(disch:=omega)only[go_sem,simprocAttr]
 refine ak ?_
 refine ar.cU (X:=Nat) 0 (fun i=>[(0,.aq 4 (l.map cn.row)),(1,.fn 210 [.ptr 0 0]),(7,.int .i64 ((l.map cn.row).length:Int)),(8,.int .i64 (i:Int))]) (fun _=>[(0,213,[.fn f []])]) (fun _=>[]) (fun i=>i≤l.length∧dj g (l.drop i) i=dj g l 0) (fun i=>l.length-i) ⟨bc3 _,rfl⟩ ⟨rfl,rfl,rfl,rfl,trivial⟩ ⟨rfl,trivial⟩ trivial ?_
 rintro i ⟨af,aw⟩
 try simp only at af aw ⊢
 cases ad:l[i]? with
 |some v=>
  have cz:=(List.getElem?_eq_some_iff.1 ad).1
  rw[eN ad]at aw
  simp only[dj]at aw
  have d1:(i:Int)<((l.map cn.row).length:Int):=by rw[bb5]; omega
  have e:=az5 aT v (g v) (h v (bc2 ad))
  generalize g v=b at e aw
  clear h
  simp(disch:=omega)only[go_sem,simprocAttr]at e
  (have ae:=d1;refine bt ?_;clear ae)
  refine D.tg ⟨[0],[]⟩ al0 e ?_
  cases b
  ·refine ak ?_
   refine D.r ?_
   exact⟨by rw[←aw]; rfl,⟨rfl,trivial⟩,trivial⟩
  ·refine ak ?_
   refine ar.eC (i+1) ⟨by omega,aw⟩ ⟨rfl,rfl,rfl,by simp only[bb8]; rfl,trivial⟩ ⟨rfl,trivial⟩ trivial rfl rfl (by show l.length-(i+1)<l.length-i; omega)
 |none=>
  have b4:=List.getElem?_eq_none_iff.1 ad
  have bN:i=l.length:=by omega
  subst bN
  have d1: ¬(l.length:Int)<((l.map cn.row).length:Int):=by rw[bb5]; omega
  rw[be6]at aw
  (have ae:=d1;refine bt ?_;clear ae)
  refine D.r ?_
  exact⟨by rw[←aw]; rfl,⟨rfl,trivial⟩,trivial⟩
theorem az4 {f:FuncId}(aT:c6 bb4 f=true) (g:cn→Bool) (l:List (cn)) (aG:l.length≤1000000000000) (h: ∀v∈l,Pure bb4 f [.agg (cn.row v)] (.bool (g v))):bg bb4 209 [.aq 4 (l.map cn.row),.fn 210 [.ptr 0 0]] (aN.of 1 0 [(0,213,[.fn f []])] []) (dA (.bool (!(l.all g))) [(0,213,[.fn f []])] []):=by
 have e:=aB9 aT g l aG h
 refine bg.intro be Tryz.func209 VS ?_
 unfold KS QY
 simp(disch:=omega)only[go_sem,simprocAttr]
 refine ak ?_
 refine D.F ⟨[0],[]⟩ (e) ?_
 refine ak ?_
 refine D.r ?_
 exact⟨by rw[←uo g l 0],⟨rfl,trivial⟩,trivial⟩
theorem aD2 {f:FuncId}(aT:c6 bb4 f=true) (g:cn→Bool) (l:List (cn)) (aG:l.length≤1000000000000) (h: ∀v∈l,Pure bb4 f [.agg (cn.row v)] (.bool (g v))):Pure bb4 114 [.aq 4 (l.map cn.row),.fn f []] (.bool (l.all g)):=by
 have e:=az4 aT g l aG h
 refine cw be Tryz.func114 U6 (by simp only[b2,I.flat,of_flat,bc0]) rfl ?_
 unfold J7 Qc
 simp(disch:=omega)only[go_sem,simprocAttr]
 refine ak ?_
 refine D.F ⟨[0],[]⟩ (e) ?_
 refine ak ?_
 refine D.r ?_
 exact⟨_,rfl,.aF (by rw[bn5]; rfl) rfl,trivial,trivial⟩
theorem al5:c6 bb4 299=true:=by kernel_rfl
theorem aB5 {f:FuncId}(aT:c6 bb4 f=true) (v:List UInt8) (b:Bool) (h:Pure bb4 f [.str v] (.bool b)):bg bb4 299 [.str v,.ptr 0 0] (aN.of 1 0 [(0,174,[.fn f []])] []) (dA (.bool (!b)) [(0,174,[.fn f []])] []):=by
 refine bg.intro be Tryz.func299 Wr ?_
 unfold Lp Ry
 simp(disch:=omega)only[go_sem,simprocAttr]
 refine ak ?_
 refine D.V (aT) (h) ?_
 refine ak ?_
 refine D.r ?_
 exact⟨rfl,⟨rfl,trivial⟩,trivial⟩
theorem aC3 {f:FuncId}(aT:c6 bb4 f=true) (g:List UInt8→Bool) (l:List (List UInt8)) (aG:l.length≤1000000000000) (h: ∀v∈l,Pure bb4 f [.str v] (.bool (g v))):bg bb4 356 [.aq 1 (l.map cf),.fn 299 [.ptr 0 0]] (aN.of 1 0 [(0,174,[.fn f []])] []) (dA (.int .i64 (dj g l 0)) [(0,174,[.fn f []])] []):=by
 refine bg.intro be Tryz.func356 I0 ?_
 unfold Ei GF
 simp(disch:=omega)only[go_sem,simprocAttr]
 refine ak ?_
 refine ar.cU (X:=Nat) 0 (fun i=>[(0,.aq 1 (l.map cf)),(1,.fn 299 [.ptr 0 0]),(7,.int .i64 ((l.map cf).length:Int)),(8,.int .i64 (i:Int))]) (fun _=>[(0,174,[.fn f []])]) (fun _=>[]) (fun i=>i≤l.length∧dj g (l.drop i) i=dj g l 0) (fun i=>l.length-i) ⟨bc3 _,rfl⟩ ⟨rfl,rfl,rfl,rfl,trivial⟩ ⟨rfl,trivial⟩ trivial ?_
 rintro i ⟨af,aw⟩
 try simp only at af aw ⊢
 cases ad:l[i]? with
 |some v=>
  have cz:=(List.getElem?_eq_some_iff.1 ad).1
  rw[eN ad]at aw
  simp only[dj]at aw
  have d1:(i:Int)<((l.map cf).length:Int):=by rw[bb5]; omega
  have e:=aB5 aT v (g v) (h v (bc2 ad))
  generalize g v=b at e aw
  clear h
  (have ae:=d1;refine bt ?_;clear ae)
  refine D.tg ⟨[0],[]⟩ al5 e ?_
  cases b
  ·refine ak ?_
   refine D.r ?_
   exact⟨by rw[←aw]; rfl,⟨rfl,trivial⟩,trivial⟩
  ·refine ak ?_
   refine ar.eC (i+1) ⟨by omega,aw⟩ ⟨rfl,rfl,rfl,by simp only[bb8]; rfl,trivial⟩ ⟨rfl,trivial⟩ trivial rfl rfl (by show l.length-(i+1)<l.length-i; omega)
 |none=>
  have b4:=List.getElem?_eq_none_iff.1 ad
  have bN:i=l.length:=by omega
  subst bN
  have d1: ¬(l.length:Int)<((l.map cf).length:Int):=by rw[bb5]; omega
  rw[be6]at aw
  (have ae:=d1;refine bt ?_;clear ae)
  refine D.r ?_
  exact⟨by rw[←aw]; rfl,⟨rfl,trivial⟩,trivial⟩
theorem aB2 {f:FuncId}(aT:c6 bb4 f=true) (g:List UInt8→Bool) (l:List (List UInt8)) (aG:l.length≤1000000000000) (h: ∀v∈l,Pure bb4 f [.str v] (.bool (g v))):bg bb4 296 [.aq 1 (l.map cf),.fn 299 [.ptr 0 0]] (aN.of 1 0 [(0,174,[.fn f []])] []) (dA (.bool (!(l.all g))) [(0,174,[.fn f []])] []):=by
 have e:=aC3 aT g l aG h
 refine bg.intro be Tryz.func296 IY ?_
 unfold Eg GC
 simp(disch:=omega)only[go_sem,simprocAttr]
 refine ak ?_
 refine D.F ⟨[0],[]⟩ (e) ?_
 refine ak ?_
 refine D.r ?_
 exact⟨by rw[←uo g l 0],⟨rfl,trivial⟩,trivial⟩
theorem az3 {f:FuncId}(aT:c6 bb4 f=true) (g:List UInt8→Bool) (l:List (List UInt8)) (aG:l.length≤1000000000000) (h: ∀v∈l,Pure bb4 f [.str v] (.bool (g v))):Pure bb4 206 [.aq 1 (l.map cf),.fn f []] (.bool (l.all g)):=by
 have e:=aB2 aT g l aG h
 refine cw be Tryz.func206 VP (by simp only[b2,I.flat,dn,bc0]) rfl ?_
 unfold KP QV
 simp(disch:=omega)only[go_sem,simprocAttr]
 refine ak ?_
 refine D.F ⟨[0],[]⟩ (e) ?_
 refine ak ?_
 refine D.r ?_
 exact⟨_,rfl,.aF (by rw[bn5]; rfl) rfl,trivial,trivial⟩
end
section
attribute [local go_sem] au.cO au.cx au.dd ai.cO ai.cx ai.dd cf dn fo gv dF of_flat bJ.row dW
def oc (s:bw):Bool:=decide (s.length≤40)&&s.all ea
def jq (n:Int):Bool:=decide (-999999≤n)&&decide (n≤999999)
theorem Gd (n:Int):Pure bb4 200 [.int .i64 n] (.bool (jq n)):=by
  refine cw be Tryz.func200 VJ rfl rfl ?_
  unfold KJ QP
  simp(disch:=omega)only[go_sem,simprocAttr]
  (repeat' first|refine D.S ?_|refine D.fg true true ?_|refine al.nil ?_|refine ar.c9 ?_|refine D.W ?_|refine D.Z ?_|refine D.G ?_ ?_|refine D.X ‹_› ?_|refine D.ja ‹_› ?_|refine D.jb ‹_› ?_|intro h|refine D.C ?_ ?_)
  all_goals (refine D.R ?_; refine⟨_,rfl,.aF ?_ rfl,trivial,trivial⟩; simp_all [jq,I.aF]<;>(try omega))
theorem PM (s:bw):Pure bb4 201 [.str s] (.bool (oc s)):=by
  refine cw be Tryz.func201 VK rfl rfl ?_
  unfold KK QQ
  simp(disch:=omega)only[go_sem,simprocAttr]
  (repeat' first|refine D.S ?_|refine D.fg true true ?_|refine al.nil ?_|refine ar.c9 ?_|refine D.W ?_|refine D.Z ?_|refine D.G ?_ ?_|refine D.X ‹_› ?_|refine D.ja ‹_› ?_|refine D.jb ‹_› ?_|intro h|refine D.C ?_ ?_)
  ·refine D.P (av6 s) ?_
   refine ak ?_
   refine D.r ?_
   refine⟨_,rfl,.aF ?_ rfl,trivial,trivial⟩
   simp only[decide_eq_true_eq]at h
   have aa:s.length≤40:=by omega
   simp [oc,aa,I.aF]
  ·refine D.r ?_
   refine⟨_,rfl,.aF ?_ rfl,trivial,trivial⟩
   simp only[decide_eq_false_iff_not]at h
   have aa: ¬s.length≤40:=by omega
   simp [oc,aa,I.aF]
def fp (k:Int) (o m t:bw) (n:Int) (lJ:Nat):Bool:=
  if k=1 then decide (0≤n)&&(decide (n≤1000)&&(decide (lJ=0)&&(decide (o=[])&&(decide (m=[])&&decide (t=[])))))
  else if k=2 then oc t&&(decide (lJ=0)&&(decide (o=[])&&(decide (m=[])&&decide (n=0))))
  else if k=3 then ev m&&(decide (lJ=0)&&(decide (o=[])&&(decide (t=[])&&decide (n=0))))
  else if k=4 then decide (lJ=1)&&(decide (o=[])&&(decide (m=[])&&(decide (t=[])&&decide (n=0))))
  else if k=5 then (decide (o=[45])||decide (o=[33]))&&(decide (lJ=1)&&(decide (m=[])&&(decide (t=[])&&decide (n=0))))
  else if k=6 then !(decide (gd o=0))&&(decide (lJ=2)&&(decide (m=[])&&(decide (t=[])&&decide (n=0))))
  else false
mutual
def fb:au→Bool
  | .mk k o m t n l=>fp k o m t n l.length&&mm l
def mm:List au→Bool
  |[]=>true
  |x::l=>fb x&&mm l
end
theorem yN: ∀l,mm l=l.all fb
  |[]=>rfl
  |x::l=>by simp only[mm,bd3,yN l]
theorem NP:c6 bb4 215=true:=by kernel_rfl
theorem Gi: ∀(N:Nat) (x:au),x.cv≤N→N≤1000000000→Pure bb4 215 [.agg x.row] (.bool (fb x))
  |0,.mk k o m t n l,h,_=>by simp only[au.cv]at h; omega
  |N+1,.mk k o m t n l,cP,lC=>by
   simp only[au.cv]at cP
   have j2:l.length≤1000000000:=by have:=au.ic l; omega
   have ap:=Gh NP fb l (by omega) fun v ad=>by
     obtain⟨i,af⟩:=bf4 ad
     exact Gi N v (by have:=au.lI af; omega) (by omega)
   simp only[fb,yN]
   generalize l.all fb=rG at ap
   have z0:((l.map au.row).length:Int)=(l.length:Int):=by rw[bb5]
   refine cw be Tryz.func215 VZ (by simp only[b2,I.flat,au.dd,bc0]) rfl ?_
   unfold KY Q5
   simp(disch:=omega)only[go_sem,simprocAttr]
   by_cases U:k=1
   ·subst U
    (repeat' first|(apply al.s rfl;(·simp(disch:=omega)only[go_sem,simprocAttr,z0]<;>with_reducible rfl))|(apply ar.s true true;(·simp(disch:=omega)only[go_sem,simprocAttr,z0]<;>with_reducible rfl))|apply al.nil|(refine ar.c9 ?_)|(apply al.ft;(·simp(disch:=omega)only[go_sem,simprocAttr,z0]<;>with_reducible rfl))|(apply al.fu;(·rfl);(·simp(disch:=omega)only[go_sem,simprocAttr,z0]<;>with_reducible rfl))|(apply al.gs;(·simp(disch:=omega)only[go_sem,simprocAttr,z0]<;>with_reducible rfl))|((first|apply al.fw|apply al.fx|apply al.fy);(·simp(disch:=omega)only[go_sem,simprocAttr,z0]<;>with_reducible rfl);(·simp(disch:=omega)only[go_sem,simprocAttr,z0]<;>with_reducible rfl);(·assumption);(·omega))|intro h|(apply ar.cond;(·simp(disch:=omega)only[go_sem,simprocAttr,z0]<;>with_reducible rfl)))
    all_goals first
      |(refine D.R ?_
        refine⟨_,rfl,.aF ?_ rfl,trivial,trivial⟩
        first
          |(simp_all [fp,I.aF]; done)
          |(simp_all [fp,I.aF]; intros; omega))
      |skip
    refine D.P (ap) ?_
    refine ak ?_
    refine D.r ?_
    refine⟨_,rfl,.aF ?_ rfl,trivial,trivial⟩
    first
      |(simp_all [fp,I.aF]; done)
      |(simp_all [fp,I.aF]; intros; omega)
   by_cases aa:k=2
   ·subst aa
    (have ae:=z0;refine bt ?_;clear ae)
    refine D.P (PM t) ?_
    cases aL:oc t
    all_goals
      (repeat' first|(apply al.s rfl;(·simp(disch:=omega)only[go_sem,simprocAttr,z0]<;>with_reducible rfl))|(apply ar.s true true;(·simp(disch:=omega)only[go_sem,simprocAttr,z0]<;>with_reducible rfl))|apply al.nil|(refine ar.c9 ?_)|(apply al.ft;(·simp(disch:=omega)only[go_sem,simprocAttr,z0]<;>with_reducible rfl))|(apply al.fu;(·rfl);(·simp(disch:=omega)only[go_sem,simprocAttr,z0]<;>with_reducible rfl))|(apply al.gs;(·simp(disch:=omega)only[go_sem,simprocAttr,z0]<;>with_reducible rfl))|((first|apply al.fw|apply al.fx|apply al.fy);(·simp(disch:=omega)only[go_sem,simprocAttr,z0]<;>with_reducible rfl);(·simp(disch:=omega)only[go_sem,simprocAttr,z0]<;>with_reducible rfl);(·assumption);(·omega))|intro h|(apply ar.cond;(·simp(disch:=omega)only[go_sem,simprocAttr,z0]<;>with_reducible rfl)))
    all_goals first
      |(refine D.R ?_
        refine⟨_,rfl,.aF ?_ rfl,trivial,trivial⟩
        first
          |(simp_all [fp,I.aF]; done)
          |(simp_all [fp,I.aF]; intros; omega))
      |skip
    refine D.P (ap) ?_
    refine ak ?_
    refine D.r ?_
    refine⟨_,rfl,.aF ?_ rfl,trivial,trivial⟩
    first
      |(simp_all [fp,I.aF]; done)
      |(simp_all [fp,I.aF]; intros; omega)
   by_cases aD:k=3
   ·subst aD
    (have ae:=z0;refine bt ?_;clear ae)
    refine D.P (po m) ?_
    cases aL:ev m
    all_goals
      (repeat' first|(apply al.s rfl;(·simp(disch:=omega)only[go_sem,simprocAttr,z0]<;>with_reducible rfl))|(apply ar.s true true;(·simp(disch:=omega)only[go_sem,simprocAttr,z0]<;>with_reducible rfl))|apply al.nil|(refine ar.c9 ?_)|(apply al.ft;(·simp(disch:=omega)only[go_sem,simprocAttr,z0]<;>with_reducible rfl))|(apply al.fu;(·rfl);(·simp(disch:=omega)only[go_sem,simprocAttr,z0]<;>with_reducible rfl))|(apply al.gs;(·simp(disch:=omega)only[go_sem,simprocAttr,z0]<;>with_reducible rfl))|((first|apply al.fw|apply al.fx|apply al.fy);(·simp(disch:=omega)only[go_sem,simprocAttr,z0]<;>with_reducible rfl);(·simp(disch:=omega)only[go_sem,simprocAttr,z0]<;>with_reducible rfl);(·assumption);(·omega))|intro h|(apply ar.cond;(·simp(disch:=omega)only[go_sem,simprocAttr,z0]<;>with_reducible rfl)))
    all_goals first
      |(refine D.R ?_
        refine⟨_,rfl,.aF ?_ rfl,trivial,trivial⟩
        first
          |(simp_all [fp,I.aF]; done)
          |(simp_all [fp,I.aF]; intros; omega))
      |skip
    refine D.P (ap) ?_
    refine ak ?_
    refine D.r ?_
    refine⟨_,rfl,.aF ?_ rfl,trivial,trivial⟩
    first
      |(simp_all [fp,I.aF]; done)
      |(simp_all [fp,I.aF]; intros; omega)
   by_cases bA:k=4
   ·subst bA
    (repeat' first|(apply al.s rfl;(·simp(disch:=omega)only[go_sem,simprocAttr,z0]<;>with_reducible rfl))|(apply ar.s true true;(·simp(disch:=omega)only[go_sem,simprocAttr,z0]<;>with_reducible rfl))|apply al.nil|(refine ar.c9 ?_)|(apply al.ft;(·simp(disch:=omega)only[go_sem,simprocAttr,z0]<;>with_reducible rfl))|(apply al.fu;(·rfl);(·simp(disch:=omega)only[go_sem,simprocAttr,z0]<;>with_reducible rfl))|(apply al.gs;(·simp(disch:=omega)only[go_sem,simprocAttr,z0]<;>with_reducible rfl))|((first|apply al.fw|apply al.fx|apply al.fy);(·simp(disch:=omega)only[go_sem,simprocAttr,z0]<;>with_reducible rfl);(·simp(disch:=omega)only[go_sem,simprocAttr,z0]<;>with_reducible rfl);(·assumption);(·omega))|intro h|(apply ar.cond;(·simp(disch:=omega)only[go_sem,simprocAttr,z0]<;>with_reducible rfl)))
    all_goals first
      |(refine D.R ?_
        refine⟨_,rfl,.aF ?_ rfl,trivial,trivial⟩
        first
          |(simp_all [fp,I.aF]; done)
          |(simp_all [fp,I.aF]; intros; omega))
      |skip
    refine D.P (ap) ?_
    refine ak ?_
    refine D.r ?_
    refine⟨_,rfl,.aF ?_ rfl,trivial,trivial⟩
    first
      |(simp_all [fp,I.aF]; done)
      |(simp_all [fp,I.aF]; intros; omega)
   by_cases b6:k=5
   ·subst b6
    (repeat' first|(apply al.s rfl;(·simp(disch:=omega)only[go_sem,simprocAttr,z0]<;>with_reducible rfl))|(apply ar.s true true;(·simp(disch:=omega)only[go_sem,simprocAttr,z0]<;>with_reducible rfl))|apply al.nil|(refine ar.c9 ?_)|(apply al.ft;(·simp(disch:=omega)only[go_sem,simprocAttr,z0]<;>with_reducible rfl))|(apply al.fu;(·rfl);(·simp(disch:=omega)only[go_sem,simprocAttr,z0]<;>with_reducible rfl))|(apply al.gs;(·simp(disch:=omega)only[go_sem,simprocAttr,z0]<;>with_reducible rfl))|((first|apply al.fw|apply al.fx|apply al.fy);(·simp(disch:=omega)only[go_sem,simprocAttr,z0]<;>with_reducible rfl);(·simp(disch:=omega)only[go_sem,simprocAttr,z0]<;>with_reducible rfl);(·assumption);(·omega))|intro h|(apply ar.cond;(·simp(disch:=omega)only[go_sem,simprocAttr,z0]<;>with_reducible rfl)))
    all_goals first
      |(refine D.R ?_
        refine⟨_,rfl,.aF ?_ rfl,trivial,trivial⟩
        first
          |(simp_all [fp,I.aF]; done)
          |(simp_all [fp,I.aF]; intros; omega))
      |skip
    all_goals
      refine D.P (ap) ?_
      refine ak ?_
      refine D.r ?_
      refine⟨_,rfl,.aF ?_ rfl,trivial,trivial⟩
      first
        |(simp_all [fp,I.aF]; done)
        |(simp_all [fp,I.aF]; intros; omega)
   by_cases dx:k=6
   ·subst dx
    (have ae:=z0;refine bt ?_;clear ae)
    refine D.P (Gm o) ?_
    (repeat' first|(apply al.s rfl;(·simp(disch:=omega)only[go_sem,simprocAttr,z0]<;>with_reducible rfl))|(apply ar.s true true;(·simp(disch:=omega)only[go_sem,simprocAttr,z0]<;>with_reducible rfl))|apply al.nil|(refine ar.c9 ?_)|(apply al.ft;(·simp(disch:=omega)only[go_sem,simprocAttr,z0]<;>with_reducible rfl))|(apply al.fu;(·rfl);(·simp(disch:=omega)only[go_sem,simprocAttr,z0]<;>with_reducible rfl))|(apply al.gs;(·simp(disch:=omega)only[go_sem,simprocAttr,z0]<;>with_reducible rfl))|((first|apply al.fw|apply al.fx|apply al.fy);(·simp(disch:=omega)only[go_sem,simprocAttr,z0]<;>with_reducible rfl);(·simp(disch:=omega)only[go_sem,simprocAttr,z0]<;>with_reducible rfl);(·assumption);(·omega))|intro h|(apply ar.cond;(·simp(disch:=omega)only[go_sem,simprocAttr,z0]<;>with_reducible rfl)))
    all_goals first
      |(refine D.R ?_
        refine⟨_,rfl,.aF ?_ rfl,trivial,trivial⟩
        first
          |(simp_all [fp,I.aF]; done)
          |(simp_all [fp,I.aF]; intros; omega))
      |skip
    refine D.P (ap) ?_
    refine ak ?_
    refine D.r ?_
    refine⟨_,rfl,.aF ?_ rfl,trivial,trivial⟩
    first
      |(simp_all [fp,I.aF]; done)
      |(simp_all [fp,I.aF]; intros; omega)
   (have ae:=z0;have z2:=U;have z3:=And.intro aa (And.intro aD (And.intro bA (And.intro b6 dx)));refine ep ?_;clear ae z2 z3)
   refine D.r ?_
   refine⟨_,rfl,.aF ?_ rfl,trivial,trivial⟩
   simp [fp,U,aa,aD,bA,b6,dx,I.aF]
end
section
attribute [local go_sem] au.cO au.cx au.dd ai.cO ai.cx ai.dd cf dn
mutual
def iR:au→Nat
 | .mk _ _ _ _ _ l=>1+ow l
def ow:List au→Nat
 |[]=>0
 |x::l=>max (iR x) (ow l)
end
mutual
theorem A7: ∀x:au,iR x≤x.cv
 | .mk _ _ _ _ _ l=>by
  have:=A8 l
  simp only[iR,au.cv]
  omega
theorem A8: ∀l:List au,ow l≤au.ch l
 |[]=>bc1 _
 |x::l=>by
  have:=A7 x
  have:=A8 l
  simp only[ow,au.ch]
  omega
end
theorem Gg: ∀(N:Nat) (x:au),x.cv≤N→N≤1000000000→Pure bb4 212 [.agg x.row] (.int .i64 (iR x:Int))
 |0,.mk k o m t n l,h,_=>by simp only[au.cv]at h; omega
 |N+1,.mk k o m t n l,cP,lC=>by
  simp only[au.cv]at cP
  have j2:l.length≤1000000000:=by have:=au.ic l; omega
  have EZ:=A8 l
  simp only[iR]
  refine cw be Tryz.func212 VW (by simp only[b2,I.flat,au.dd,bc0]) rfl ?_
  unfold KV Q2
  simp(disch:=omega)only[go_sem,simprocAttr]
  refine ak ?_
  refine ar.cU (X:=Nat×Nat) (0,0) (fun y=>[(7,.aq 6 (l.map au.row)),(8,.int .i64 ((l.map au.row).length:Int)),(9,.int .i64 (y.1:Int)),(3,.int .i64 (y.2:Int))]) (fun _=>[]) (fun _=>[]) (fun y=>y.1≤l.length∧y.2≤ow l∧max y.2 (ow (l.drop y.1))=ow l) (fun y=>l.length-y.1) ⟨bc3 _,bc3 _,by simp⟩ ⟨rfl,rfl,rfl,rfl,trivial⟩ trivial trivial ?_
  rintro⟨i,a⟩ ⟨af,aS,aw⟩
  simp only at af aS aw ⊢
  cases ad:l[i]? with
  |some v=>
   have cz:=(List.getElem?_eq_some_iff.1 ad).1
   rw[eN ad]at aw
   simp only[ow]at aw
   have d1:(i:Int)<((l.map au.row).length:Int):=by rw[bb5]; omega
   have e:=Gg N v (by have:=au.lI ad; omega) (by omega)
   obtain⟨q,bu⟩: ∃q,q=iR v:=⟨_,rfl⟩
   rw[←bu]at e aw
   rcases v with ⟨fD,fH,fF,fI,fG,fE⟩
   simp(disch:=omega)only[go_sem,simprocAttr]at e
   (have ae:=d1;refine bt ?_;clear ae)
   refine D.P (e) ?_
   refine ak ?_
   refine ar.jS (i+1,max a q) ⟨by simp only; omega,by simp only; omega,by simp only; omega⟩ ⟨rfl,rfl,by simp only[bb8]; rfl,by rw[show ((max a q:Nat):Int)=max (a:Int) (q:Int) by omega]; rfl,trivial⟩ trivial trivial rfl (by simp only[im,dw,eA,eB,ia,I.du,bM.bY,go_sem]<;>rfl) (by show l.length-(i+1)<l.length-i; omega)
  |none=>
   have b4:=List.getElem?_eq_none_iff.1 ad
   have bN:i=l.length:=by omega
   subst bN
   have d1: ¬(l.length:Int)<((l.map au.row).length:Int):=by rw[bb5]; omega
   rw[be6]at aw
   simp only[ow]at aw
   (have ae:=d1;refine bt ?_;clear ae)
   refine D.r ?_
   refine⟨_,rfl,.aF ?_ rfl,trivial,trivial⟩
   simp only[I.aF,I.int.injEq,true_and]
   omega
theorem al1:c6 bb4 211=true:=by kernel_rfl
theorem az6 (x:au) (ab:x.cv≤1000000000):Pure bb4 211 [.agg x.row] (.bool (decide (iR x≤10))):=by
 have e:=Gg 1000000000 x ab (bc1 _)
 obtain⟨q,bu⟩: ∃q,q=iR x:=⟨_,rfl⟩
 rw[←bu]at e ⊢
 rcases x with ⟨fD,fH,fF,fI,fG,fE⟩
 simp(disch:=omega)only[go_sem,simprocAttr]at e
 refine cw be Tryz.func211 VV (by simp only[b2,I.flat,au.dd,bc0]) rfl ?_
 unfold KU Q1
 simp(disch:=omega)only[go_sem,simprocAttr]
 refine ak ?_
 refine D.P (e) ?_
 refine ak ?_
 refine D.r ?_
 refine⟨_,rfl,.aF ?_ rfl,trivial,trivial⟩
 simp only[I.aF,I.bool.injEq]
 exact decide_eq_decide.2 (by omega)
theorem Zp (n:Nat) (aW:0<n) (a1:n≤100000000000){c:aN}:bg bb4 303 [.bi,.int .i64 (n:Int)] c (mH (.own c.bh 6 []) (c.gO (.bY 80 6 0))):=by
 obtain⟨i,U,aa,aD,bA⟩:=NH (P:=bb4) (t:=80) (z:=TR) (n:=6) (b:=88) (by kernel_rfl)
 have:=MA (c:=c) Tryz.My (i0:=i) (z:=TR) U aa (by omega) (by rw[aD]; rfl) (n:=n) aW (by rw[bA]; omega) (by omega)
 rw[aD]at this
 exact this
theorem Zn {c:aN}:bg bb4 303 [.bi,.int .i64 0] c (mH .bi c):=Mx Tryz.My
theorem Zq (n:Nat) (aW:0<n) (a1:n≤100000000000){c:aN}:bg bb4 355 [.bi,.int .i64 (n:Int)] c (mH (.own c.bh 11 []) (c.gO (.bY 82 11 0))):=by
 obtain⟨i,U,aa,aD,bA⟩:=NH (P:=bb4) (t:=82) (z:=TS) (n:=11) (b:=168) (by kernel_rfl)
 have:=MA (c:=c) Tryz.Mz (i0:=i) (z:=TS) U aa (by omega) (by rw[aD]; rfl) (n:=n) aW (by rw[bA]; omega) (by omega)
 rw[aD]at this
 exact this
theorem Zo {c:aN}:bg bb4 355 [.bi,.int .i64 0] c (mH .bi c):=Mx Tryz.Mz
theorem az7 (a b:List au) (aS:a.length≤1000000000) (hb:b.length≤1000000000):Pure bb4 213 [.aq 1 [[.aq 6 (a.map au.row)],[.aq 6 (b.map au.row)]]] (.aq 6 ((a++b).map au.row)):=by
 have dI:((a.map au.row).length:Int)=(a.length:Int):=by rw[bb5]
 have iP:((b.map au.row).length:Int)=(b.length:Int):=by rw[bb5]
 refine cw be Tryz.func213 VX (by simp only[b2,I.flat,eY,au.cx,bc0]) (by simp only[I.flat,au.cx]) ?_
 unfold KW Q3
 simp(disch:=omega)only[go_sem,simprocAttr]
 refine ak ?_
 refine ar.cU (X:=Nat×Int) (0,0) (fun i=>[(0,.aq 1 [[.aq 6 (a.map au.row)],[.aq 6 (b.map au.row)]]),(2,.bi),(9,.aq 1 [[.aq 6 (a.map au.row)],[.aq 6 (b.map au.row)]]),(10,.int .i64 2),(11,.int .i64 (i.1:Int)),(3,.int .i64 i.2)]) (fun _=>[]) (fun _=>[]) (fun i=>(i.1=0∧i.2=0)∨(i.1=1∧i.2=a.length)∨(i.1=2∧i.2=(a.length:Int)+b.length)) (fun i=>2-i.1) (.inl ⟨rfl,rfl⟩) ⟨rfl,rfl,rfl,rfl,rfl,rfl,trivial⟩ trivial trivial ?_
 rintro⟨i,v⟩ (⟨U,aa⟩|⟨U,aa⟩|⟨U,aa⟩)
 all_goals
  simp only at U aa
  subst U aa
 ·have d1: ¬(a.length:Int)<0:=by omega
  have HK:(0:Int)+(a.length:Int)=(a.length:Int):=by omega
  simp(disch:=omega)only[go_sem,simprocAttr]
  (have ae:=dI;have z2:=HK;have z3:=d1;refine ep ?_;clear ae z2 z3)
  refine ar.eC (1,(a.length:Int)) (.inr (.inl ⟨rfl,rfl⟩)) ⟨rfl,rfl,rfl,rfl,rfl,rfl,trivial⟩ trivial trivial rfl rfl (by show 2-1<2-0; decide)
 ·have d1: ¬(a.length:Int)+(b.length:Int)<0:=by omega
  simp(disch:=omega)only[go_sem,simprocAttr]
  (have ae:=iP;have z2:=d1;refine dQ ?_;clear ae z2)
  refine ar.eC (2,(a.length:Int)+(b.length:Int)) (.inr (.inr ⟨rfl,rfl⟩)) ⟨rfl,rfl,rfl,rfl,rfl,rfl,trivial⟩ trivial trivial rfl rfl (by show 2-2<2-1; decide)
 refine ak ?_
 by_cases aW:a.length+b.length=0
 focus
  have e:(a.length:Int)+(b.length:Int)=0:=by omega
  rw[e]
  (apply al.st rfl (Zn);(·simp(disch:=omega)only[go_sem,simprocAttr]<;>rfl))
  simp only[xJ,xI]
  refine b0 ?_
  refine ar.tK 6 6 80 rfl (by decide) ?_
  simp(disch:=omega)only[go_sem,simprocAttr]
 rotate_left
 focus
  rw[show (a.length:Int)+(b.length:Int)=((a.length+b.length:Nat):Int) by omega]
  (apply al.st rfl (Zp (a.length+b.length) (by omega) (by omega));(·simp(disch:=omega)only[go_sem,simprocAttr]<;>rfl))
  simp only[xJ,xI]
  simp(disch:=omega)only[go_sem,simprocAttr]
  (repeat' first|refine D.S ?_|refine al.nil ?_|refine D.W ?_|refine D.Z ?_|refine D.G ?_ ?_|refine D.X ‹_› ?_|refine D.ja ‹_› ?_|refine D.jb ‹_› ?_|intro h)
 all_goals
  refine ak ?_
  refine ar.cU (X:=Nat×List au) (0,[]) (fun i=>[(25,.aq 1 [[.aq 6 (a.map au.row)],[.aq 6 (b.map au.row)]]),(26,.int .i64 2),(27,.int .i64 (i.1:Int)),(6,.own 0 6 (i.2.map au.row))]) (fun _=>[]) (fun i=>[(0,.bY 80 6 (i.2.map au.row).length)]) (fun i=>(i.1=0∧i.2=[])∨(i.1=1∧i.2=a)∨(i.1=2∧i.2=a++b)) (fun i=>2-i.1) (.inl ⟨rfl,rfl⟩) ⟨rfl,rfl,rfl,rfl,trivial⟩ trivial ⟨rfl,trivial⟩ ?_
  rintro⟨i,v⟩ (⟨U,aa⟩|⟨U,aa⟩|⟨U,aa⟩)
  ·simp only at U aa
   subst U aa
   refine ak ?_
   refine D.iE ?_
   refine ak ?_
   refine ar.eC (1,a) (.inr (.inl ⟨rfl,rfl⟩)) ⟨rfl,rfl,rfl,by simp only[bg5,bd6]; rfl,trivial⟩ trivial ⟨by simp only[bg5,bc4,bf6]; rfl,trivial⟩ rfl rfl (by show 2-1<2-0; decide)
  ·simp only at U aa
   subst U aa
   refine ak ?_
   refine D.iE ?_
   refine ak ?_
   refine ar.eC (2,v++b) (.inr (.inr ⟨rfl,rfl⟩)) ⟨rfl,rfl,rfl,by simp only[be5]; rfl,trivial⟩ trivial ⟨by simp only[be5,bb7]; rfl,trivial⟩ rfl rfl (by show 2-2<2-1; decide)
  ·simp only at U aa
   subst U aa
   refine ak ?_
   refine D.r ?_
   exact⟨_,rfl,.aF rfl (by simp only[I.flat,au.cx]),trivial,trivial⟩
theorem aB1 (a b:List ai) (aS:a.length≤1000000000) (hb:b.length≤1000000000):Pure bb4 295 [.aq 1 [[.aq 11 (a.map ai.row)],[.aq 11 (b.map ai.row)]]] (.aq 11 ((a++b).map ai.row)):=by
 have dI:((a.map ai.row).length:Int)=(a.length:Int):=by rw[bb5]
 have iP:((b.map ai.row).length:Int)=(b.length:Int):=by rw[bb5]
 refine cw be Tryz.func295 Wp (by simp only[b2,I.flat,eY,ai.cx,bc0]) (by simp only[I.flat,ai.cx]) ?_
 unfold Ln Rw
 simp(disch:=omega)only[go_sem,simprocAttr]
 refine ak ?_
 refine ar.cU (X:=Nat×Int) (0,0) (fun i=>[(0,.aq 1 [[.aq 11 (a.map ai.row)],[.aq 11 (b.map ai.row)]]),(2,.bi),(9,.aq 1 [[.aq 11 (a.map ai.row)],[.aq 11 (b.map ai.row)]]),(10,.int .i64 2),(11,.int .i64 (i.1:Int)),(3,.int .i64 i.2)]) (fun _=>[]) (fun _=>[]) (fun i=>(i.1=0∧i.2=0)∨(i.1=1∧i.2=a.length)∨(i.1=2∧i.2=(a.length:Int)+b.length)) (fun i=>2-i.1) (.inl ⟨rfl,rfl⟩) ⟨rfl,rfl,rfl,rfl,rfl,rfl,trivial⟩ trivial trivial ?_
 rintro⟨i,v⟩ (⟨U,aa⟩|⟨U,aa⟩|⟨U,aa⟩)
 all_goals
  simp only at U aa
  subst U aa
 ·have d1: ¬(a.length:Int)<0:=by omega
  have HK:(0:Int)+(a.length:Int)=(a.length:Int):=by omega
  simp(disch:=omega)only[go_sem,simprocAttr]
  (have ae:=dI;have z2:=HK;have z3:=d1;refine ep ?_;clear ae z2 z3)
  refine ar.eC (1,(a.length:Int)) (.inr (.inl ⟨rfl,rfl⟩)) ⟨rfl,rfl,rfl,rfl,rfl,rfl,trivial⟩ trivial trivial rfl rfl (by show 2-1<2-0; decide)
 ·have d1: ¬(a.length:Int)+(b.length:Int)<0:=by omega
  simp(disch:=omega)only[go_sem,simprocAttr]
  (have ae:=iP;have z2:=d1;refine dQ ?_;clear ae z2)
  refine ar.eC (2,(a.length:Int)+(b.length:Int)) (.inr (.inr ⟨rfl,rfl⟩)) ⟨rfl,rfl,rfl,rfl,rfl,rfl,trivial⟩ trivial trivial rfl rfl (by show 2-2<2-1; decide)
 refine ak ?_
 by_cases aW:a.length+b.length=0
 focus
  have e:(a.length:Int)+(b.length:Int)=0:=by omega
  rw[e]
  (apply al.st rfl (Zo);(·simp(disch:=omega)only[go_sem,simprocAttr]<;>rfl))
  simp only[xJ,xI]
  refine b0 ?_
  refine ar.tK 6 11 82 rfl (by decide) ?_
  simp(disch:=omega)only[go_sem,simprocAttr]
 rotate_left
 focus
  rw[show (a.length:Int)+(b.length:Int)=((a.length+b.length:Nat):Int) by omega]
  (apply al.st rfl (Zq (a.length+b.length) (by omega) (by omega));(·simp(disch:=omega)only[go_sem,simprocAttr]<;>rfl))
  simp only[xJ,xI]
  simp(disch:=omega)only[go_sem,simprocAttr]
  (repeat' first|refine D.S ?_|refine al.nil ?_|refine D.W ?_|refine D.Z ?_|refine D.G ?_ ?_|refine D.X ‹_› ?_|refine D.ja ‹_› ?_|refine D.jb ‹_› ?_|intro h)
 all_goals
  refine ak ?_
  refine ar.cU (X:=Nat×List ai) (0,[]) (fun i=>[(25,.aq 1 [[.aq 11 (a.map ai.row)],[.aq 11 (b.map ai.row)]]),(26,.int .i64 2),(27,.int .i64 (i.1:Int)),(6,.own 0 11 (i.2.map ai.row))]) (fun _=>[]) (fun i=>[(0,.bY 82 11 (i.2.map ai.row).length)]) (fun i=>(i.1=0∧i.2=[])∨(i.1=1∧i.2=a)∨(i.1=2∧i.2=a++b)) (fun i=>2-i.1) (.inl ⟨rfl,rfl⟩) ⟨rfl,rfl,rfl,rfl,trivial⟩ trivial ⟨rfl,trivial⟩ ?_
  rintro⟨i,v⟩ (⟨U,aa⟩|⟨U,aa⟩|⟨U,aa⟩)
  ·simp only at U aa
   subst U aa
   refine ak ?_
   refine D.iE ?_
   refine ak ?_
   refine ar.eC (1,a) (.inr (.inl ⟨rfl,rfl⟩)) ⟨rfl,rfl,rfl,by simp only[bg5,bd6]; rfl,trivial⟩ trivial ⟨by simp only[bg5,bc4,bf6]; rfl,trivial⟩ rfl rfl (by show 2-1<2-0; decide)
  ·simp only at U aa
   subst U aa
   refine ak ?_
   refine D.iE ?_
   refine ak ?_
   refine ar.eC (2,v++b) (.inr (.inr ⟨rfl,rfl⟩)) ⟨rfl,rfl,rfl,by simp only[be5]; rfl,trivial⟩ trivial ⟨by simp only[be5,bb7]; rfl,trivial⟩ rfl rfl (by show 2-2<2-1; decide)
  ·simp only at U aa
   subst U aa
   refine ak ?_
   refine D.r ?_
   exact⟨_,rfl,.aF rfl (by simp only[I.flat,ai.cx]),trivial,trivial⟩
end
section
attribute [local go_sem] au.cO au.cx au.dd ai.cO ai.cx ai.dd cf dn
mutual
def kv:ai→Nat
 | .mk _ _ x _ a b=>1+max (iR x) (max (iG a) (iG b))
def iG:List ai→Nat
 |[]=>0
 |x::l=>max (kv x) (iG l)
end
theorem JL: ∀a b,iG (a++b)=max (iG a) (iG b)
 |[],b=>by simp [iG]
 |x::a,b=>by simp only[bd2,iG,JL a b]; omega
mutual
theorem Yd: ∀x:ai,kv x≤x.cv
 | .mk _ _ x _ a b=>by
  have:=A7 x
  have:=A9 a
  have:=A9 b
  simp only[kv,ai.cv]
  omega
theorem A9: ∀l:List ai,iG l≤ai.ch l
 |[]=>bc1 _
 |x::l=>by
  have:=Yd x
  have:=A9 l
  simp only[iG,ai.ch]
  omega
end
theorem ai.yj: ∀a b:List ai,ai.ch (a++b)=ai.ch a+ai.ch b
 |[],b=>by simp [ai.ch]
 |x::a,b=>by simp only[bd2,ai.ch,ai.yj a b]; omega
theorem PN: ∀(N:Nat) (x:ai),x.cv≤N→N≤1000000000→Pure bb4 204 [.agg x.row] (.int .i64 (kv x:Int))
 |0,.mk k gp x t a b,h,_=>by simp only[ai.cv]at h; omega
 |N+1,.mk k gp x t ig gV,cP,lC=>by
  simp only[ai.cv]at cP
  have BO:=ai.ic ig
  have BP:=ai.ic gV
  have j2:=ai.ic (ig++gV)
  have ET:=ai.yj ig gV
  have EZ:=A9 (ig++gV)
  have E1:=A7 x
  have ex:=Gg N x (by omega) (by omega)
  have ly:=aB1 ig gV (by omega) (by omega)
  simp only[kv]
  rw[←JL]
  obtain⟨l,aG⟩: ∃l,l=ig++gV:=⟨_,rfl⟩
  rw[←aG]at ly EZ ET j2 ⊢
  obtain⟨kh,ae8⟩: ∃q,q=iR x:=⟨_,rfl⟩
  rw[←ae8]at ex E1 ⊢
  clear aG
  rcases x with ⟨fD,fH,fF,fI,fG,fE⟩
  simp(disch:=omega)only[go_sem,simprocAttr]at ex
  refine cw be Tryz.func204 VN (by simp only[b2,I.flat,ai.dd,bc0]) rfl ?_
  unfold KN QT
  simp(disch:=omega)only[go_sem,simprocAttr]
  refine ak ?_
  refine D.P (ex) ?_
  refine ak ?_
  refine D.P (ly) ?_
  refine ak ?_
  refine ar.cU (X:=Nat×Nat) (0,kh) (fun y=>[(14,.aq 11 (l.map ai.row)),(15,.int .i64 ((l.map ai.row).length:Int)),(16,.int .i64 (y.1:Int)),(3,.int .i64 (y.2:Int))]) (fun _=>[]) (fun _=>[]) (fun y=>y.1≤l.length∧y.2≤max kh (iG l)∧max y.2 (iG (l.drop y.1))=max kh (iG l)) (fun y=>l.length-y.1) ⟨bc3 _,by simp only; omega,by simp⟩ ⟨rfl,rfl,rfl,rfl,trivial⟩ trivial trivial ?_
  rintro⟨i,a⟩ ⟨af,aS,aw⟩
  simp only at af aS aw ⊢
  cases ad:l[i]? with
  |some v=>
   have cz:=(List.getElem?_eq_some_iff.1 ad).1
   rw[eN ad]at aw
   simp only[iG]at aw
   have d1:(i:Int)<((l.map ai.row).length:Int):=by rw[bb5]; omega
   have e:=PN N v (by have:=ai.lI ad; omega) (by omega)
   obtain⟨q,bu⟩: ∃q,q=kv v:=⟨_,rfl⟩
   rw[←bu]at e aw
   rcases v with ⟨ff,as8,⟨a00,a04,a02,a05,a03,a01⟩,aQ0,aK0,aK1⟩
   simp(disch:=omega)only[go_sem,simprocAttr]at e
   (have ae:=d1;refine bt ?_;clear ae)
   refine D.P (e) ?_
   refine ak ?_
   refine ar.jS (i+1,max a q) ⟨by simp only; omega,by simp only; omega,by simp only; omega⟩ ⟨rfl,rfl,by simp only[bb8]; rfl,by rw[show ((max a q:Nat):Int)=max (a:Int) (q:Int) by omega]; rfl,trivial⟩ trivial trivial rfl (by simp only[im,dw,eA,eB,ia,I.du,bM.bY,go_sem]<;>rfl) (by show l.length-(i+1)<l.length-i; omega)
  |none=>
   have b4:=List.getElem?_eq_none_iff.1 ad
   have bN:i=l.length:=by omega
   subst bN
   have d1: ¬(l.length:Int)<((l.map ai.row).length:Int):=by rw[bb5]; omega
   rw[be6]at aw
   simp only[iG]at aw
   (have ae:=d1;refine bt ?_;clear ae)
   refine D.r ?_
   refine⟨_,rfl,.aF ?_ rfl,trivial,trivial⟩
   simp only[I.aF,I.int.injEq,true_and]
   omega
theorem ak9:c6 bb4 203=true:=by kernel_rfl
theorem az2 (x:ai) (ab:x.cv≤1000000000):Pure bb4 203 [.agg x.row] (.bool (decide (kv x≤10))):=by
 have e:=PN 1000000000 x ab (bc1 _)
 obtain⟨q,bu⟩: ∃q,q=kv x:=⟨_,rfl⟩
 rw[←bu]at e ⊢
 rcases x with ⟨k,gp,⟨fD,fH,fF,fI,fG,fE⟩,t,a,b⟩
 simp(disch:=omega)only[go_sem,simprocAttr]at e
 refine cw be Tryz.func203 VM (by simp only[b2,I.flat,ai.dd,bc0]) rfl ?_
 unfold KM QS
 simp(disch:=omega)only[go_sem,simprocAttr]
 refine ak ?_
 refine D.P (e) ?_
 refine ak ?_
 refine D.r ?_
 refine⟨_,rfl,.aF ?_ rfl,trivial,trivial⟩
 simp only[I.aF,I.bool.injEq]
 exact decide_eq_decide.2 (by omega)
end
section
attribute [local go_sem] au.cO au.cx au.dd ai.cO ai.cx ai.dd cf dn bJ.row dW
def en (k:Int) (m:bw) (t:Int) (lJ bP:Nat):Bool:=
  if k=1 then ev m&&(decide (t=0)&&(decide (lJ=0)&&decide (bP=0)))
  else if k=2 then decide (m=[])&&decide (t=0)
  else if k=3 then decide (m=[])&&(decide (1≤t)&&(decide (t≤50)&&decide (bP=0)))
  else false
mutual
def iH:ai→Bool
  | .mk k m x t a b=>en k m t a.length b.length&&(fb x&&(jt a&&jt b))
def jt:List ai→Bool
  |[]=>true
  |x::l=>iH x&&jt l
end
theorem w4: ∀l,jt l=l.all iH
  |[]=>rfl
  |x::l=>by simp only[jt,bd3,w4 l]
theorem FE:c6 bb4 208=true:=by kernel_rfl
theorem Gf: ∀(N:Nat) (x:ai),x.cv≤N→N≤1000000000→Pure bb4 208 [.agg x.row] (.bool (iH x))
  |0,.mk k gp x t a b,h,_=>by simp only[ai.cv]at h; omega
  |N+1,.mk k gp x t ig gV,cP,lC=>by
   simp only[ai.cv]at cP
   have BO:=ai.ic ig
   have BP:=ai.ic gV
   have ex:=Gi N x (by omega) (by omega)
   have kw:=Cp FE iH ig (by omega) fun v ad=>by
     obtain⟨i,af⟩:=bf4 ad
     exact Gf N v (by have:=ai.lI af; omega) (by omega)
   have je:=Cp FE iH gV (by omega) fun v ad=>by
     obtain⟨i,af⟩:=bf4 ad
     exact Gf N v (by have:=ai.lI af; omega) (by omega)
   have dI:((ig.map ai.row).length:Int)=(ig.length:Int):=by rw[bb5]
   have iP:((gV.map ai.row).length:Int)=(gV.length:Int):=by rw[bb5]
   simp only[iH,w4]
   generalize ig.all iH=rG at kw
   generalize gV.all iH=Ez at je
   generalize fb x=w5 at ex
   clear BO BP cP
   generalize ig.length=lJ at dI ⊢
   generalize gV.length=bP at iP ⊢
   rcases x with ⟨fD,fH,fF,fI,fG,fE⟩
   simp(disch:=omega)only[go_sem,simprocAttr]at ex
   refine cw be Tryz.func208 VR (by simp only[b2,I.flat,ai.dd,bc0]) rfl ?_
   unfold KR QX
   simp(disch:=omega)only[go_sem,simprocAttr]
   by_cases U:k=1
   ·subst U
    (have ae:=dI;have z2:=iP;refine dQ ?_;clear ae z2)
    refine D.P (po gp) ?_
    cases aL:ev gp
    ·refine ak ?_
     refine D.r ?_
     refine⟨_,rfl,.aF ?_ rfl,trivial,trivial⟩
     simp_all [en,I.aF]
    (repeat' first|(apply al.s rfl;(·simp(disch:=omega)only[go_sem,simprocAttr,dI,iP]<;>with_reducible rfl))|(apply ar.s true true;(·simp(disch:=omega)only[go_sem,simprocAttr,dI,iP]<;>with_reducible rfl))|apply al.nil|(refine ar.c9 ?_)|(apply al.ft;(·simp(disch:=omega)only[go_sem,simprocAttr,dI,iP]<;>with_reducible rfl))|(apply al.fu;(·rfl);(·simp(disch:=omega)only[go_sem,simprocAttr,dI,iP]<;>with_reducible rfl))|(apply al.gs;(·simp(disch:=omega)only[go_sem,simprocAttr,dI,iP]<;>with_reducible rfl))|((first|apply al.fw|apply al.fx|apply al.fy);(·simp(disch:=omega)only[go_sem,simprocAttr,dI,iP]<;>with_reducible rfl);(·simp(disch:=omega)only[go_sem,simprocAttr,dI,iP]<;>with_reducible rfl);(·assumption);(·omega))|intro h|(apply ar.cond;(·simp(disch:=omega)only[go_sem,simprocAttr,dI,iP]<;>with_reducible rfl)))
    all_goals first
      |(refine D.R ?_
        refine⟨_,rfl,.aF ?_ rfl,trivial,trivial⟩
        first
        |(simp_all [en,I.aF]; done)
        |(simp_all [en,I.aF]; intros; omega)
        |(simp_all [en,I.aF]; omega))
      |skip
    refine D.P (ex) ?_
    cases w5
    ·refine ak ?_
     refine D.r ?_
     refine⟨_,rfl,.aF ?_ rfl,trivial,trivial⟩
     first
     |(simp_all [en,I.aF]; done)
     |(simp_all [en,I.aF]; intros; omega)
     |(simp_all [en,I.aF]; omega)
    refine ak ?_
    refine D.P (kw) ?_
    cases rG
    ·refine ak ?_
     refine D.r ?_
     refine⟨_,rfl,.aF ?_ rfl,trivial,trivial⟩
     first
     |(simp_all [en,I.aF]; done)
     |(simp_all [en,I.aF]; intros; omega)
     |(simp_all [en,I.aF]; omega)
    refine ak ?_
    refine D.P (je) ?_
    refine ak ?_
    refine D.r ?_
    refine⟨_,rfl,.aF ?_ rfl,trivial,trivial⟩
    first
    |(simp_all [en,I.aF]; done)
    |(simp_all [en,I.aF]; intros; omega)
    |(simp_all [en,I.aF]; omega)
   by_cases aa:k=2
   ·subst aa
    (repeat' first|(apply al.s rfl;(·simp(disch:=omega)only[go_sem,simprocAttr,dI,iP]<;>with_reducible rfl))|(apply ar.s true true;(·simp(disch:=omega)only[go_sem,simprocAttr,dI,iP]<;>with_reducible rfl))|apply al.nil|(refine ar.c9 ?_)|(apply al.ft;(·simp(disch:=omega)only[go_sem,simprocAttr,dI,iP]<;>with_reducible rfl))|(apply al.fu;(·rfl);(·simp(disch:=omega)only[go_sem,simprocAttr,dI,iP]<;>with_reducible rfl))|(apply al.gs;(·simp(disch:=omega)only[go_sem,simprocAttr,dI,iP]<;>with_reducible rfl))|((first|apply al.fw|apply al.fx|apply al.fy);(·simp(disch:=omega)only[go_sem,simprocAttr,dI,iP]<;>with_reducible rfl);(·simp(disch:=omega)only[go_sem,simprocAttr,dI,iP]<;>with_reducible rfl);(·assumption);(·omega))|intro h|(apply ar.cond;(·simp(disch:=omega)only[go_sem,simprocAttr,dI,iP]<;>with_reducible rfl)))
    all_goals first
      |(refine D.R ?_
        refine⟨_,rfl,.aF ?_ rfl,trivial,trivial⟩
        first
        |(simp_all [en,I.aF]; done)
        |(simp_all [en,I.aF]; intros; omega)
        |(simp_all [en,I.aF]; omega))
      |skip
    refine D.P (ex) ?_
    cases w5
    ·refine ak ?_
     refine D.r ?_
     refine⟨_,rfl,.aF ?_ rfl,trivial,trivial⟩
     first
     |(simp_all [en,I.aF]; done)
     |(simp_all [en,I.aF]; intros; omega)
     |(simp_all [en,I.aF]; omega)
    refine ak ?_
    refine D.P (kw) ?_
    cases rG
    ·refine ak ?_
     refine D.r ?_
     refine⟨_,rfl,.aF ?_ rfl,trivial,trivial⟩
     first
     |(simp_all [en,I.aF]; done)
     |(simp_all [en,I.aF]; intros; omega)
     |(simp_all [en,I.aF]; omega)
    refine ak ?_
    refine D.P (je) ?_
    refine ak ?_
    refine D.r ?_
    refine⟨_,rfl,.aF ?_ rfl,trivial,trivial⟩
    first
    |(simp_all [en,I.aF]; done)
    |(simp_all [en,I.aF]; intros; omega)
    |(simp_all [en,I.aF]; omega)
   by_cases aD:k=3
   ·subst aD
    (repeat' first|(apply al.s rfl;(·simp(disch:=omega)only[go_sem,simprocAttr,dI,iP]<;>with_reducible rfl))|(apply ar.s true true;(·simp(disch:=omega)only[go_sem,simprocAttr,dI,iP]<;>with_reducible rfl))|apply al.nil|(refine ar.c9 ?_)|(apply al.ft;(·simp(disch:=omega)only[go_sem,simprocAttr,dI,iP]<;>with_reducible rfl))|(apply al.fu;(·rfl);(·simp(disch:=omega)only[go_sem,simprocAttr,dI,iP]<;>with_reducible rfl))|(apply al.gs;(·simp(disch:=omega)only[go_sem,simprocAttr,dI,iP]<;>with_reducible rfl))|((first|apply al.fw|apply al.fx|apply al.fy);(·simp(disch:=omega)only[go_sem,simprocAttr,dI,iP]<;>with_reducible rfl);(·simp(disch:=omega)only[go_sem,simprocAttr,dI,iP]<;>with_reducible rfl);(·assumption);(·omega))|intro h|(apply ar.cond;(·simp(disch:=omega)only[go_sem,simprocAttr,dI,iP]<;>with_reducible rfl)))
    all_goals first
      |(refine D.R ?_
        refine⟨_,rfl,.aF ?_ rfl,trivial,trivial⟩
        first
        |(simp_all [en,I.aF]; done)
        |(simp_all [en,I.aF]; intros; omega)
        |(simp_all [en,I.aF]; omega))
      |skip
    refine D.P (ex) ?_
    cases w5
    ·refine ak ?_
     refine D.r ?_
     refine⟨_,rfl,.aF ?_ rfl,trivial,trivial⟩
     first
     |(simp_all [en,I.aF]; done)
     |(simp_all [en,I.aF]; intros; omega)
     |(simp_all [en,I.aF]; omega)
    refine ak ?_
    refine D.P (kw) ?_
    cases rG
    ·refine ak ?_
     refine D.r ?_
     refine⟨_,rfl,.aF ?_ rfl,trivial,trivial⟩
     first
     |(simp_all [en,I.aF]; done)
     |(simp_all [en,I.aF]; intros; omega)
     |(simp_all [en,I.aF]; omega)
    refine ak ?_
    refine D.P (je) ?_
    refine ak ?_
    refine D.r ?_
    refine⟨_,rfl,.aF ?_ rfl,trivial,trivial⟩
    first
    |(simp_all [en,I.aF]; done)
    |(simp_all [en,I.aF]; intros; omega)
    |(simp_all [en,I.aF]; omega)
   (have ae:=U;have z2:=aa;have z3:=aD;refine ep ?_;clear ae z2 z3)
   refine D.r ?_
   refine⟨_,rfl,.aF ?_ rfl,trivial,trivial⟩
   simp [en,U,aa,aD,I.aF]
def k6 (v:bJ):Bool:=ev v.name&&(jq v.b3&&(jq v.af&&((decide (v.fB=1)||(decide (v.fB=2)&&(decide (0≤v.b3)&&decide (0≤v.af))))&&
  (if v.dG=1 then jq v.n&&decide (v.s=[]) else if v.dG=2 then decide (v.n=0)&&oc v.s else false))))
theorem am5:c6 bb4 111=true:=by kernel_rfl
theorem aC9 (v:bJ):Pure bb4 111 [.agg v.row] (.bool (k6 v)):=by
  obtain⟨gp,fB,b3,af,dG,n,s⟩:=v
  have Yx:=po gp
  have Em:=Gd b3
  have Yu:=Gd af
  have Bm:=Gd n
  have L3:=PM s
  simp only[k6]
  generalize ev gp=Uy at*
  generalize jq b3=Uu at*
  generalize jq af=Dm at*
  generalize jq n=AS at*
  generalize oc s=Iu at*
  refine cw be Tryz.func111 U3 rfl rfl ?_
  unfold J4 P9
  simp(disch:=omega)only[go_sem,simprocAttr]
  refine ak ?_
  refine D.P (Yx) ?_
  cases Uy
  ·refine ak ?_
   exact D.rx
  refine ak ?_
  refine D.P (Em) ?_
  cases Uu
  ·refine ak ?_
   exact D.rx
  refine ak ?_
  refine D.P (Yu) ?_
  cases Dm
  ·refine ak ?_
   exact D.rx
  by_cases br:fB=1
  focus
    subst br
    (repeat' first|refine D.S ?_|refine D.fg true true ?_|refine al.nil ?_|refine ar.c9 ?_|refine D.W ?_|refine D.Z ?_|refine D.G ?_ ?_|refine D.X ‹_› ?_|refine D.ja ‹_› ?_|refine D.jb ‹_› ?_|intro h)
  rotate_left
  focus
    by_cases bB:fB=2
    ·subst bB
     by_cases uf:b3<0
     ·(have ae:=uf;refine bt ?_;clear ae)
      refine D.r ?_
      refine⟨_,rfl,.aF ?_ rfl,trivial,trivial⟩
      simp [I.aF,show ¬ 0≤b3 by omega]
     by_cases aK:af<0
     ·(have ae:=uf;have z2:=aK;refine dQ ?_;clear ae z2)
      refine D.r ?_
      refine⟨_,rfl,.aF ?_ rfl,trivial,trivial⟩
      simp [I.aF,show ¬ 0≤af by omega]
     (have ae:=uf;have z2:=aK;refine dQ ?_;clear ae z2)
     have fR:0≤b3:=by omega
     have pg:0≤af:=by omega
     rw[show (decide ((2:Int)=1)||(decide ((2:Int)=2)&&(decide (0≤b3)&&decide (0≤af))))=true by simp [fR,pg]]
     clear uf aK fR pg
     by_cases rS:dG=1
     ·subst rS
      refine ak ?_
      refine D.P (Bm) ?_
      cases AS
      ·refine ak ?_
       exact D.rx
      refine ak ?_
      exact D.rx
     by_cases ue:dG=2
     ·subst ue
      by_cases cL:n=0
      ·(have ae:=cL;refine bt ?_;clear ae)
       refine D.P (L3) ?_
       refine ak ?_
       refine D.r ?_
       refine⟨_,rfl,.aF ?_ rfl,trivial,trivial⟩
       simp [I.aF,cL]
      ·(have ae:=cL;refine bt ?_;clear ae)
       refine D.r ?_
       refine⟨_,rfl,.aF ?_ rfl,trivial,trivial⟩
       simp [I.aF,cL]
     (have ae:=rS;have z2:=ue;refine dQ ?_;clear ae z2)
     refine D.r ?_
     refine⟨_,rfl,.aF ?_ rfl,trivial,trivial⟩
     simp [I.aF,rS,ue]
    ·(have ae:=br;have z2:=bB;refine dQ ?_;clear ae z2)
     refine D.r ?_
     refine⟨_,rfl,.aF ?_ rfl,trivial,trivial⟩
     simp [I.aF,br,bB]
  rw[show (decide ((1:Int)=1)||(decide ((1:Int)=2)&&(decide (0≤b3)&&decide (0≤af))))=true by simp]
  by_cases rS:dG=1
  ·subst rS
   refine ak ?_
   refine D.P (Bm) ?_
   cases AS
   ·refine ak ?_
    exact D.rx
   refine ak ?_
   exact D.rx
  by_cases ue:dG=2
  ·subst ue
   by_cases cL:n=0
   ·(have ae:=cL;refine bt ?_;clear ae)
    refine D.P (L3) ?_
    refine ak ?_
    refine D.r ?_
    refine⟨_,rfl,.aF ?_ rfl,trivial,trivial⟩
    simp [I.aF,cL]
   ·(have ae:=cL;refine bt ?_;clear ae)
    refine D.r ?_
    refine⟨_,rfl,.aF ?_ rfl,trivial,trivial⟩
    simp [I.aF,cL]
  (have ae:=rS;have z2:=ue;refine dQ ?_;clear ae z2)
  refine D.r ?_
  refine⟨_,rfl,.aF ?_ rfl,trivial,trivial⟩
  simp [I.aF,rS,ue]
end
section
attribute [local go_sem] au.cO au.cx au.dd ai.cO ai.cx ai.dd cf dn fo gv dF of_flat
theorem aM6 (s:bw):(rZ s).length≤s.length+1:=by
 have hlen:=Lib.splitB_all pR (bc1 _) 0 _ ⟨⟨s⟩⟩ rfl
 have hle:=Lib.countB_le pR (bc1 _) s.length ⟨⟨s⟩⟩ (bc1 _)
 rw[rZ,bb5,hlen]
 exact Nat.succ_le_succ hle
theorem al4:c6 bb4 298=true:=by kernel_rfl
theorem aB4 (s:bw):Pure bb4 298 [.str s] (.bool (!(ev s))):=by
 refine cw be Tryz.func298 Wq rfl rfl ?_
 unfold Lo Rx
 simp(disch:=omega)only[go_sem,simprocAttr]
 refine ak ?_
 refine D.P (po s) ?_
 refine ak ?_
 exact D.rx
theorem aC4 {f:FuncId}(aT:c6 bb4 f=true) (g:bw→Bool) (l:List bw) (aG:l.length≤1000000000000) (h: ∀v∈l,Pure bb4 f [.str v] (.bool (!(g v)))):Pure bb4 356 [.aq 1 (l.map cf),.fn f []] (.int .i64 (dj g l 0)):=by
 refine cw be Tryz.func356 I0 (by simp only[b2,I.flat,dn,bc0]) rfl ?_
 unfold Ei GF
 simp(disch:=omega)only[go_sem,simprocAttr]
 refine ak ?_
 refine ar.cU (X:=Nat) 0 (fun i=>[(0,.aq 1 (l.map cf)),(1,.fn f []),(7,.int .i64 ((l.map cf).length:Int)),(8,.int .i64 (i:Int))]) (fun _=>[]) (fun _=>[]) (fun i=>i≤l.length∧dj g (l.drop i) i=dj g l 0) (fun i=>l.length-i) ⟨bc3 _,rfl⟩ ⟨rfl,rfl,rfl,rfl,trivial⟩ trivial trivial ?_
 rintro i ⟨af,aw⟩
 try simp only at af aw ⊢
 cases ad:l[i]? with
 |some v=>
  have cz:=(List.getElem?_eq_some_iff.1 ad).1
  rw[eN ad]at aw
  simp only[dj]at aw
  have d1:(i:Int)<((l.map cf).length:Int):=by rw[bb5]; omega
  have e:=h v (bc2 ad)
  generalize g v=b at e aw
  clear h
  (have ae:=d1;refine bt ?_;clear ae)
  refine D.V (aT) (e) ?_
  cases b
  ·refine ak ?_
   refine D.r ?_
   exact⟨_,rfl,.aF (by rw[←aw]; rfl) rfl,trivial,trivial⟩
  ·refine ak ?_
   refine ar.eC (i+1) ⟨by omega,aw⟩ ⟨rfl,rfl,rfl,by simp only[bb8]; rfl,trivial⟩ trivial trivial rfl rfl (by show l.length-(i+1)<l.length-i; omega)
 |none=>
  have b4:=List.getElem?_eq_none_iff.1 ad
  have bN:i=l.length:=by omega
  subst bN
  have d1: ¬(l.length:Int)<((l.map cf).length:Int):=by rw[bb5]; omega
  rw[be6]at aw
  (have ae:=d1;refine bt ?_;clear ae)
  refine D.r ?_
  exact⟨_,rfl,.aF (by rw[←aw]; rfl) rfl,trivial,trivial⟩
theorem aB3 {f:FuncId}(aT:c6 bb4 f=true) (g:bw→Bool) (l:List bw) (aG:l.length≤1000000000000) (h: ∀v∈l,Pure bb4 f [.str v] (.bool (!(g v)))):Pure bb4 296 [.aq 1 (l.map cf),.fn f []] (.bool (!(l.all g))):=by
 have e:=aC4 aT g l aG h
 refine cw be Tryz.func296 IY (by simp only[b2,I.flat,dn,bc0]) rfl ?_
 unfold Eg GC
 simp(disch:=omega)only[go_sem,simprocAttr]
 refine ak ?_
 refine D.P (e) ?_
 refine ak ?_
 refine D.r ?_
 exact⟨_,rfl,.aF (by rw[←uo g l 0]; rfl) rfl,trivial,trivial⟩
def lK (s:bw):Bool:=decide (s.length≤50)&&(rZ s).all ev
theorem Ge (s:bw):Pure bb4 205 [.str s] (.bool (lK s)):=by
 unfold lK
 refine cw be Tryz.func205 VO rfl rfl ?_
 unfold KO QU
 simp(disch:=omega)only[go_sem,simprocAttr]
 by_cases h:s.length≤50
 ·have d:(s.length:Int)≤50:=by omega
  have aG:=aM6 s
  have e:=aB3 al4 ev (rZ s) (by omega) fun v _=>aB4 v
  (have ae:=d;refine bt ?_;clear ae)
  refine D.P (av9 s (by omega)) ?_
  refine ak ?_
  refine D.P (e) ?_
  refine ak ?_
  refine D.r ?_
  refine⟨_,rfl,.aF ?_ rfl,trivial,trivial⟩
  simp [I.aF,h]
 ·have d: ¬(s.length:Int)≤50:=by omega
  (have ae:=d;refine bt ?_;clear ae)
  refine D.r ?_
  refine⟨_,rfl,.aF ?_ rfl,trivial,trivial⟩
  simp [I.aF,h]
theorem am4:c6 bb4 109=true:=by kernel_rfl
theorem am6:c6 bb4 113=true:=by kernel_rfl
theorem am7:c6 bb4 115=true:=by kernel_rfl
def lR (h:bS):Bool:=lK h.da&&(ev h.peer&&(decide (h.ps.length≤4)&&(h.ps.all ev&&(h.body.all iH&&h.body.all (fun x=>decide (kv x≤10))))))
def mn (o:cn):Bool:=lK o.da&&(ev o.peer&&(decide (o.args.length≤4)&&(decide (o.eb.length≤1)&&((o.args++o.eb).all fb&&(o.args++o.eb).all (fun x=>decide (iR x≤10))))))
theorem ai.p3 {l:List ai}{v:ai}(h:v∈l):v.cv≤ai.ch l:=by
 obtain⟨i,af⟩:=bf4 h
 exact ai.lI af
theorem au.p3 {l:List au}{v:au}(h:v∈l):v.cv≤au.ch l:=by
 obtain⟨i,af⟩:=bf4 h
 exact au.lI af
theorem aD1 (h:bS) (hb:ai.ch h.body≤1000000000) (hp:h.ps.length≤1000000000):Pure bb4 113 [.agg h.row] (.bool (lR h)):=by
 obtain⟨da,peer,ps,body⟩:=h
 simp only at hb hp
 have a43:=ai.ic body
 have ap:=Ge da
 have ay:=po peer
 have b1:=az3 am4 ev ps (by omega) fun v _=>po v
 have dC:=Cp FE iH body (by omega) fun v ad=>Gf 1000000000 v (by have:=ai.p3 ad; omega) (bc1 _)
 have gF:=Cp ak9 (fun x=>decide (kv x≤10)) body (by omega) fun v ad=>az2 v (by have:=ai.p3 ad; omega)
 have sf:((ps.map cf).length:Int)=(ps.length:Int):=by rw[bb5]
 simp only[lR]
 generalize lK da=e5 at*
 generalize ev peer=il at*
 generalize ps.all ev=jZ at*
 generalize body.all iH=om at*
 generalize (body.all fun x=>decide (kv x≤10))=yl at*
 refine cw be Tryz.func113 U5 (by simp only[b2,I.flat,fo,dn,ai.cx,bc0]) rfl ?_
 unfold J6 Qb
 simp(disch:=omega)only[go_sem,simprocAttr]
 refine ak ?_
 refine D.P (ap) ?_
 cases e5
 ·refine ak ?_
  exact D.rx
 refine ak ?_
 refine D.P (ay) ?_
 cases il
 ·refine ak ?_
  exact D.rx
 by_cases bA:ps.length≤4
 rotate_left
 ·have d: ¬(ps.length:Int)≤4:=by omega
  (have ae:=sf;have z2:=d;refine dQ ?_;clear ae z2)
  refine D.r ?_
  refine⟨_,rfl,.aF ?_ rfl,trivial,trivial⟩
  simp [I.aF,bA]
 have d:(ps.length:Int)≤4:=by omega
 simp only[decide_eq_true bA,bc7]
 (have ae:=sf;have z2:=d;refine dQ ?_;clear ae z2)
 refine D.P (b1) ?_
 cases jZ
 ·refine ak ?_
  exact D.rx
 refine ak ?_
 refine D.P (dC) ?_
 cases om
 ·refine ak ?_
  exact D.rx
 refine ak ?_
 refine D.P (gF) ?_
 refine ak ?_
 exact D.rx
end
section
attribute [local go_sem] au.cO au.cx au.dd ai.cO ai.cx ai.dd cf dn fo gv dF of_flat
theorem au.yj: ∀a b:List au,au.ch (a++b)=au.ch a+au.ch b
 |[],b=>by simp [au.ch]
 |x::a,b=>by simp only[bd2,au.ch,au.yj a b]; omega
theorem aD3 (o:cn) (hb:au.ch o.args+au.ch o.eb≤1000000000):Pure bb4 115 [.agg o.row] (.bool (mn o)):=by
 obtain⟨da,peer,ol,wn⟩:=o
 simp only at hb
 have BO:=au.ic ol
 have vw:=au.ic wn
 have ET:=au.yj ol wn
 have mr:=au.ic (ol++wn)
 have ap:=Ge da
 have ay:=po peer
 have bN:=az7 ol wn (by omega) (by omega)
 have dC:=Gh NP fb (ol++wn) (by omega) fun v ad=>Gi 1000000000 v (by have:=au.p3 ad; omega) (bc1 _)
 have gF:=Gh al1 (fun x=>decide (iR x≤10)) (ol++wn) (by omega) fun v ad=>az6 v (by have:=au.p3 ad; omega)
 have sf:((ol.map au.row).length:Int)=(ol.length:Int):=by rw[bb5]
 have TW:((wn.map au.row).length:Int)=(wn.length:Int):=by rw[bb5]
 simp only[mn]
 generalize lK da=e5 at*
 generalize ev peer=il at*
 generalize (ol++wn).all fb=om at*
 generalize ((ol++wn).all fun x=>decide (iR x≤10))=yl at*
 generalize ol++wn=a26 at*
 clear ET mr hb BO vw
 refine cw be Tryz.func115 U7 (by simp only[b2,I.flat,gv,au.cx,bc0]) rfl ?_
 unfold J8 Qd
 simp(disch:=omega)only[go_sem,simprocAttr]
 refine ak ?_
 refine D.P (bN) ?_
 refine ak ?_
 refine D.P (ap) ?_
 cases e5
 ·refine ak ?_
  exact D.rx
 refine ak ?_
 refine D.P (ay) ?_
 cases il
 ·refine ak ?_
  exact D.rx
 by_cases bA:ol.length≤4
 rotate_left
 ·have d: ¬(ol.length:Int)≤4:=by omega
  (have ae:=sf;have z2:=d;refine dQ ?_;clear ae z2)
  refine D.r ?_
  refine⟨_,rfl,.aF ?_ rfl,trivial,trivial⟩
  simp [I.aF,bA]
 have d:(ol.length:Int)≤4:=by omega
 simp only[decide_eq_true bA,bc7]
 by_cases U:wn.length≤1
 rotate_left
 ·have d1: ¬(wn.length:Int)≤1:=by omega
  (have ae:=sf;have z2:=d;have z3:=And.intro TW d1;refine ep ?_;clear ae z2 z3)
  refine D.r ?_
  refine⟨_,rfl,.aF ?_ rfl,trivial,trivial⟩
  simp [I.aF,U]
 have d1:(wn.length:Int)≤1:=by omega
 simp only[decide_eq_true U,bc7]
 (have ae:=sf;have z2:=d;have z3:=And.intro TW d1;refine ep ?_;clear ae z2 z3)
 refine D.P (dC) ?_
 cases om
 ·refine ak ?_
  exact D.rx
 refine ak ?_
 refine D.P (gF) ?_
 refine ak ?_
 exact D.rx
theorem E3 {k:Int}{o m t:bw}{n:Int}{lJ:Nat}(h:fp k o m t n lJ=true):(k=1∧0≤n∧n≤1000∧lJ=0)∨(k=2∧t.length≤40∧lJ=0)∨(k=3∧lJ=0)∨(k=4∧lJ=1)∨(k=5∧lJ=1)∨(k=6∧lJ=2):=by
 unfold fp at h
 by_cases U:k=1
 ·simp [U]at h; simp [U,h.1,h.2.1,h.2.2.1]
 by_cases aa:k=2
 ·simp [aa,oc]at h; simp [aa,h.1.1,h.2.1]
 by_cases aD:k=3
 ·simp [aD]at h; simp [aD,h.2.1]
 by_cases bA:k=4
 ·simp [bA]at h; simp [bA,h.1]
 by_cases b6:k=5
 ·simp [b6]at h; simp [b6,h.2.1]
 by_cases dx:k=6
 ·simp [dx]at h; simp [dx,h.2.1]
 simp [U,aa,aD,bA,b6,dx]at h
theorem sW: ∀(N:Nat),(∀x:au,x.cv≤N→fb x=true→(cy x).length≤1000000000→Pure bb4 221 [.agg x.row] (.str (cy x)))∧(∀(x:au) (k:Int),x.cv≤N→fb x=true→(ie x (cy x) k).length≤1000000000→Pure bb4 314 [.agg x.row,.int .i64 k] (.str (ie x (cy x) k)))
 |0=>⟨fun x h=>by cases x; simp only[au.cv]at h; omega,fun x k h=>by cases x; simp only[au.cv]at h; omega⟩
 |N+1=>by
  have key: ∀x:au,x.cv≤N+1→fb x=true→(cy x).length≤1000000000→Pure bb4 221 [.agg x.row] (.str (cy x)):=by
   rintro⟨k,o,m,t,n,l⟩ cP bo ao
   simp only[au.cv]at cP
   simp only[fb,bb6]at bo
   obtain⟨a6,hq⟩:=bo
   simp only[cy,CJ]at ao ⊢
   have tY:=ao
   unfold Bw at ao ⊢
   refine cw be Tryz.func221 V3 (by simp only[b2,I.flat,au.dd,bc0]) rfl ?_
   unfold Ed Q9
   simp(disch:=omega)only[go_sem,simprocAttr]
   rcases E3 a6 with ⟨rfl,aW,U,aa⟩|⟨rfl,aW,U⟩|⟨rfl,aW⟩|⟨rfl,aW⟩|⟨rfl,aW⟩|⟨rfl,aW⟩
   ·refine ak ?_
    refine D.P (zM n (by omega) (by omega)) ?_
    refine ak ?_
    exact D.rx
   ·refine ak ?_
    refine D.P (PR t (by omega)) ?_
    refine ak ?_
    exact D.rx
   ·refine ak ?_
    exact D.rx
   ·match l,aW with
    |[x],_=>
    simp only[mm,be0]at hq
    simp only[au.ch]at cP
    have iu:([108,101,110,40]++cy x++[41]).length≤1000000000:=ao
    simp only[bb7,bb9,bc4]at iu
    have e:=(sW N).1 x (by omega) hq (by omega)
    rcases x with ⟨fD,fH,fF,fI,fG,fE⟩
    simp(disch:=omega)only[go_sem,simprocAttr]at e
    refine ak ?_
    refine D.P (e) ?_
    refine D.bU ?_
    refine D.bU ?_
    refine ak ?_
    exact D.rx
   ·match l,aW with
    |[x],_=>
    simp only[mm,be0]at hq
    simp only[au.ch]at cP
    have iu:(o++ie x (cy x) 7).length≤1000000000:=ao
    simp only[bb7]at iu
    have e:=(sW N).2 x 7 (by omega) hq (by omega)
    show ar bb4 _ _ _ _ (uT (.str (o++ie x (cy x) 7)) [] []) _ _
    generalize ie x (cy x) 7=iM at e iu ⊢
    clear ao tY
    rcases x with ⟨fD,fH,fF,fI,fG,fE⟩
    simp(disch:=omega)only[go_sem,simprocAttr]at e
    iterate 7 refine iZ ?_
    repeat refine D.fg true true ?_
    refine ar.gC (anns:=[.str iM]) ?_
    refine b0 ?_
    refine D.ei (e) ?_
    refine D.bU ?_ (hb:=by simp only[maxLen]; omega)
    refine ak ?_
    exact D.rx
   ·match l,aW with
    |[x,y],_=>
    simp only[mm,be0,bb6]at hq
    simp only[au.ch]at cP
    have iu:(ie x (cy x) (gd o)++[32]++o++[32]++ie y (cy y) (gd o+1)).length≤1000000000:=ao
    simp only[bb7,bb9,bc4]at iu
    have e:=(sW N).2 x (gd o) (by omega) hq.1 (by omega)
    have ay:=(sW N).2 y (gd o+1) (by omega) hq.2 (by omega)
    show ar bb4 _ _ _ _ (uT (.str (ie x (cy x) (gd o)++[32]++o++[32]++ie y (cy y) (gd o+1))) [] []) _ _
    generalize ie x (cy x) (gd o)=iM at e iu ⊢
    generalize ie y (cy y) (gd o+1)=Ha at ay iu ⊢
    have hp:=F8 o
    have kx:=Gm o
    generalize gd o=iL at*
    clear ao tY
    rcases x with ⟨fD,fH,fF,fI,fG,fE⟩
    rcases y with ⟨q5,Au,wo,tb,wq,At⟩
    simp(disch:=omega)only[go_sem,simprocAttr]at e
    simp(disch:=omega)only[go_sem,simprocAttr]at ay
    iterate 7 refine iZ ?_
    repeat refine D.fg true true ?_
    refine ar.c9 ?_
    refine b0 ?_
    refine D.P (kx) ?_
    refine b0 ?_
    repeat refine D.fg true true ?_
    refine ar.gC (anns:=[.str iM,.str Ha]) ?_
    refine b0 ?_
    refine D.ei (e) ?_
    refine D.bU ?_
    refine b0 ?_
    refine D.bU ?_
    refine D.bU ?_
    refine b0 ?_
    refine D.ei (ay) ?_
    refine D.bU ?_
    refine ak ?_
    exact D.rx
  refine⟨key,fun x k cP bo ao=> ?_⟩
  have kx:=Gm x.op
  by_cases dx:x.kind=6
  ·by_cases av:gd x.op<k
   ·have k9:ie x (cy x) k=[40]++cy x++[41]:=if_pos ⟨dx,av⟩
    rw[k9]at ao ⊢
    simp only[bb7,bb9,bc4]at ao
    have e:=key x cP bo (by omega)
    generalize cy x=iM at*
    rcases x with ⟨fD,fH,fF,fI,fG,fE⟩
    simp only[au.kind,au.op]at dx av kx
    subst dx
    simp(disch:=omega)only[go_sem,simprocAttr]at e
    refine cw be Tryz.func314 DD (by simp only[b2,I.flat,au.dd,bc0]) rfl ?_
    unfold Bi Cz
    simp(disch:=omega)only[go_sem,simprocAttr]
    refine ak ?_
    refine D.P (kx) ?_
    (have ae:=av;refine bt ?_;clear ae)
    refine D.P (e) ?_
    refine D.bU ?_
    refine D.bU ?_
    refine ak ?_
    exact D.rx
   ·have k9:ie x (cy x) k=cy x:=if_neg fun h=>av h.2
    rw[k9]at ao ⊢
    have e:=key x cP bo (by omega)
    generalize cy x=iM at*
    rcases x with ⟨fD,fH,fF,fI,fG,fE⟩
    simp only[au.kind,au.op]at dx av kx
    subst dx
    simp(disch:=omega)only[go_sem,simprocAttr]at e
    refine cw be Tryz.func314 DD (by simp only[b2,I.flat,au.dd,bc0]) rfl ?_
    unfold Bi Cz
    simp(disch:=omega)only[go_sem,simprocAttr]
    refine ak ?_
    refine D.P (kx) ?_
    (have ae:=av;refine bt ?_;clear ae)
    refine D.P (e) ?_
    refine ak ?_
    exact D.rx
  ·have k9:ie x (cy x) k=cy x:=if_neg fun h=>dx h.1
   rw[k9]at ao ⊢
   have e:=key x cP bo (by omega)
   generalize cy x=iM at*
   rcases x with ⟨fD,fH,fF,fI,fG,fE⟩
   simp only[au.kind]at dx
   simp(disch:=omega)only[go_sem,simprocAttr]at e
   refine cw be Tryz.func314 DD (by simp only[b2,I.flat,au.dd,bc0]) rfl ?_
   unfold Bi Cz
   simp(disch:=omega)only[go_sem,simprocAttr]
   (have ae:=dx;refine bt ?_;clear ae)
   refine D.P (e) ?_
   refine ak ?_
   exact D.rx
end
section
attribute [local go_sem] ib mb au.cO au.cx au.dd ai.cO ai.cx ai.dd cf dn
theorem az8 (k n:Int) (s:bw) (a1:k≠2→ -1000000000≤n∧n≤1000000000) (ao:s.length≤100000000):Pure bb4 218 [.agg [.int .i64 k,.int .i64 n,.str s]] (.str (ua k n s)):=by
 refine cw be Tryz.func218 V1 rfl rfl ?_
 unfold K0 Q7
 unfold ua
 simp(disch:=omega)only[go_sem,simprocAttr]
 by_cases h:k=2
 ·rw[if_pos h]
  (have ae:=h;refine bt ?_;clear ae)
  refine D.P (PR s ao) ?_
  refine ak ?_
  exact D.rx
 ·rw[if_neg h]
  (have ae:=h;refine bt ?_;clear ae)
  refine D.P (zM n (a1 h).1 (a1 h).2) ?_
  refine ak ?_
  exact D.rx
theorem NM {xs:List bw}{sep s:bw}(h:s∈xs):s.length≤(Lib.join xs sep).length:=by
 unfold Lib.join
 induction xs with
 |nil=>cases h
 |cons x l b7=>
  cases l with
  |nil=>simp at h; subst h; simp
  |cons y l=>
   rw[List.intercalate_cons_cons]
   rcases List.mem_cons.1 h with rfl|h
   ·simp only[bb7]; omega
   ·have:=b7 h
    simp only[bb7]; omega
theorem az9 (l:List au) (aS:au.ch l≤1000000) (bo:l.all fb=true) (ao:(Lib.join (l.map cy) [44,32]).length≤1000000000):Pure bb4 222 [.aq 6 (l.map au.row)] (.str (Lib.join (l.map cy) [44,32])):=by
 have j2:=au.ic l
 have rA:=Ps (l.map cy) [44,32] (by rw[bb5]; omega) ao
 refine cw be Tryz.func222 V4 (by simp only[b2,I.flat,au.cx,bc0]) rfl ?_
 unfold K2 Ra
 simp(disch:=omega)only[go_sem,simprocAttr]
 iterate 2 refine iZ ?_
 refine ar.tK 3 1 9 rfl (by decide) ?_
 simp(disch:=omega)only[go_sem,simprocAttr]
 refine ak ?_
 refine ar.cU (X:=Nat) 0 (fun i=>[(6,.aq 6 (l.map au.row)),(7,.int .i64 ((l.map au.row).length:Int)),(8,.int .i64 (i:Int)),(3,.own 0 1 (((l.take i).map cy).map cf))]) (fun _=>[]) (fun i=>[(0,.bY 9 1 (((l.take i).map cy).map cf).length)]) (fun i=>i≤l.length) (fun i=>l.length-i) (bc3 _) ⟨rfl,rfl,rfl,rfl,trivial⟩ trivial ⟨rfl,trivial⟩ ?_
 intro i af
 try simp only at af ⊢
 cases ad:l[i]? with
 |some v=>
  have cz:=(List.getElem?_eq_some_iff.1 ad).1
  have hD:=bc2 ad
  have gm:((l.take (i+1)).map cy).map cf=((l.take i).map cy).map cf++[cf (cy v)]:=by
   rw[bf5,ad]; simp
  have hlen:(((l.take i).map cy).map cf).length=i:=by simp; omega
  have d1:(i:Int)<((l.map au.row).length:Int):=by rw[bb5]; omega
  have e:=(sW 1000000).1 v (by have:=au.p3 hD; omega) (by simpa using List.all_eq_true.1 bo v hD) (bg1 (NM (List.mem_map_of_mem hD)) ao)
  obtain⟨wc,af8⟩: ∃wc,wc=cy v:=⟨_,rfl⟩
  rw[←af8]at e gm
  generalize ((l.take i).map cy).map cf=rows at gm hlen ⊢
  rcases v with ⟨fD,fH,fF,fI,fG,fE⟩
  simp(disch:=omega)only[go_sem,simprocAttr]at e
  (have ae:=d1;refine bt ?_;clear ae)
  refine D.P (e) ?_
  refine ak ?_
  refine D.iE ?_
  refine ak ?_
  refine ar.jS (i+1) (by omega) ⟨rfl,rfl,by simp only[bb8]; rfl,by simp only[gm]; rfl,trivial⟩ trivial ⟨by simp only[gm,bb7]; rfl,trivial⟩ rfl (by simp only[im,dw,eA,eB,ia,I.du,bM.bY,dn,go_sem]<;>rfl) (by show l.length-(i+1)<l.length-i; omega)
 |none=>
  have b4:=List.getElem?_eq_none_iff.1 ad
  have bN:i=l.length:=by omega
  subst bN
  have d1: ¬(l.length:Int)<((l.map au.row).length:Int):=by rw[bb5]; omega
  rw[bf1]
  (have ae:=d1;refine bt ?_;clear ae)
  refine D.P (rA) ?_
  refine ak ?_
  exact D.rx
end
section
attribute [local go_sem] ib mb au.cO au.cx au.dd ai.cO ai.cx ai.dd cf dn
theorem Du (d:Nat):BT 304 [.int .i64 (d:Int)]:= .inr ⟨rfl,_,rfl⟩
theorem Y5 {ps:List bw}{i:Nat}{v:bw}(h:ps[i]? =some v):(ps.take (i+1)).flatten=(ps.take i).flatten++v:=by
 rw[bf5,h]; simp
theorem Mo (ps:List bw) (i:Nat):(ps.take i).flatten.length≤ps.flatten.length:=by
 conv=>rhs; rw[←bj5 i ps]
 rw[bm8,bb7]
 omega
theorem oL (d:Nat) (bG:d≤1000000){A:I}(dJ:Ax A) (out:bw) (ps:List bw) (a1:ps.length≤1000) (aG:out.length+(eZ d ps).length≤1000000000):bg bb4 216 [.ptr 0 0,.aq 1 (ps.map cf)] (pO 304 A out [.int .i64 (d:Int)]) (dA (.c3 []) (qp 304 (.ptr 0 0) (out++eZ d ps) [.int .i64 (d:Int)]) (qu (out++eZ d ps))):=by
 have mr:out.length+(d+ps.flatten.length+1)≤1000000000:=by
  simp only[eZ,bb7,bg7,bb9,bc4]at aG
  omega
 have bN:=PQ (Du d) dJ out (bc9 d 9) (by rw[bg7]; omega)
 have YH:=aw0 d bG
 have xo:(bc9 d (9:UInt8)).length=d:=bg7
 unfold eZ
 generalize bc9 d (9:UInt8)=q1 at*
 rcases dJ with rfl|rfl
 all_goals
  have bu:=mr
  refine bg.intro be Tryz.func216 V0 ?_
  unfold KZ Q6
  simp(disch:=omega)only[go_sem,simprocAttr]
  repeat refine D.fg true true ?_
  refine ar.gC (anns:=[.str q1]) ?_
  refine b0 ?_
  refine D.ei (YH) ?_
  refine b0 ?_
  refine D.F ⟨[0],[0]⟩ (bN) ?_
  refine ak ?_
  refine ar.cU (X:=Nat) 0 (fun i=>[(0,.ptr 0 0),(15,.aq 1 (ps.map cf)),(16,.int .i64 ((ps.map cf).length:Int)),(17,.int .i64 (i:Int))]) (fun i=>[(0,304,[.ptr 0 0,.own 0 1 ((out++q1++(ps.take i).flatten).map ib),.int .i64 (d:Int)])]) (fun i=>[(0,.bY 5 1 ((out++q1++(ps.take i).flatten).map ib).length)]) (fun i=>i≤ps.length) (fun i=>ps.length-i) (bc3 _) ⟨rfl,rfl,rfl,rfl,trivial⟩ ⟨by simp only[bg2,be3,bd8]; rfl,trivial⟩ ⟨by simp only[bg2,be3,bd8]; rfl,trivial⟩ ?_
  intro i af
  try simp only at af ⊢
  have xj:=Mo ps i
  cases ad:ps[i]? with
  |some v=>
   have cz:=(List.getElem?_eq_some_iff.1 ad).1
   have gm:=Y5 ad
   have M9:=Mo ps (i+1)
   rw[gm,bb7]at M9
   have d1:(i:Int)<((ps.map cf).length:Int):=by rw[bb5]; omega
   have iq:(out++q1++(ps.take i).flatten).length+v.length≤1000000000:=by simp only[bb7]; omega
   have fq:out++q1++(ps.take (i+1)).flatten=(out++q1++(ps.take i).flatten)++v:=by rw[gm,bc8,bc8,bc8]
   generalize out++q1++(ps.take i).flatten=Y at iq fq ⊢
   (have ae:=d1;refine bt ?_;clear ae)
   refine D.F ⟨[0],[0]⟩ (PQ (Du d) (.inr rfl) Y v iq) ?_
   refine ak ?_
   refine ar.eC (i+1) (by omega) ⟨rfl,rfl,rfl,by simp only[bb8]; rfl,trivial⟩ (by simp only[fq]; exact⟨rfl,trivial⟩) (by simp only[fq]; exact⟨rfl,trivial⟩) rfl rfl (by show ps.length-(i+1)<ps.length-i; omega)
  |none=>
   have b4:=List.getElem?_eq_none_iff.1 ad
   have bN:i=ps.length:=by omega
   subst bN
   have d1: ¬(ps.length:Int)<((ps.map cf).length:Int):=by rw[bb5]; omega
   rw[bf1]
   have iq:(out++q1++ps.flatten).length+1≤1000000000:=by simp only[bb7]; omega
   rw[show out++(q1++ps.flatten++[10])=(out++q1++ps.flatten)++[10] by simp only[bc8]]
   generalize out++q1++ps.flatten=Y at iq ⊢
   (have ae:=d1;refine bt ?_;clear ae)
   refine D.F ⟨[0],[0]⟩ (xK (Du d) (.inr rfl) Y 10 10 rfl iq) ?_
   refine ak ?_
   refine D.r ?_
   exact⟨rfl,⟨rfl,trivial⟩,rfl,trivial⟩
end
section
attribute [local go_sem] ib mb au.cO au.cx au.dd ai.cO ai.cx ai.dd cf dn
abbrev vU (out:bw) (d:Nat):eJ:=qp 304 (.ptr 0 0) out [.int .i64 (d:Int)]
theorem Ga (d:Nat){l:List ai}{i:Nat}{v:ai}(h:l[i]? =some v):ai.fW d (l.take (i+1))=ai.fW d (l.take i)++ai.iL d [105,102,32] v:=by
 have eV: ∀a b:List ai,ai.fW d (a++b)=ai.fW d a++ai.fW d b:=by
  intro a
  induction a with
  |nil=>intro b; rfl
  |cons x a b7=>intro b; simp only[bd2,ai.fW,b7 b,bc8]
 rw[bf5,h,eV]
 simp only[bp8,ai.fW,bd8]
theorem F9 (d:Nat) (l:List ai) (i:Nat):(ai.fW d (l.take i)).length≤(ai.fW d l).length:=by
 induction l generalizing i with
 |nil=>simp
 |cons x l b7=>
  cases i with
  |zero=>simp [ai.fW]
  |succ i=>
   simp only[bg0,ai.fW,bb7]
   have:=b7 i
   omega
theorem PH (d:Nat){l:List ai}{i:Nat}{v:ai}(h:l[i]? =some v):(ai.fW d (l.take i)).length+(ai.iL d [105,102,32] v).length≤(ai.fW d l).length:=by
 have:=F9 d l (i+1)
 rw[Ga d h,bb7]at this
 exact this
def AF (N:Nat):Prop:=∀(x:ai) (d:Nat) (out:bw),x.cv≤N→iH x=true→d+x.cv≤1000000→out.length+(ai.iL d [105,102,32] x).length≤1000000000→bg bb4 313 [.ptr 0 0,.agg x.row] (pO 304 (.ptr 0 0) out [.int .i64 (d:Int)]) (dA (.c3 []) (vU (out++ai.iL d [105,102,32] x) d) (qu (out++ai.iL d [105,102,32] x)))
def C9 (N:Nat):Prop:=∀(l:List ai) (d:Nat) (out:bw),ai.ch l≤N→jt l=true→d+1+ai.ch l≤1000000→out.length+(ai.fW (d+1) l).length≤1000000000→bg bb4 220 [.ptr 0 0,.aq 11 (l.map ai.row)] (pO 304 (.ptr 0 0) out [.int .i64 (d:Int)]) (dA (.c3 []) (vU (out++ai.fW (d+1) l) d) (qu (out++ai.fW (d+1) l)))
theorem Py {N:Nat}(j1:AF N):C9 N:=by
 intro l d out cP bo bG aG
 have j2:=ai.ic l
 rw[w4]at bo
 refine bg.intro be Tryz.func220 V2 ?_
 unfold K1 Q8
 simp(disch:=omega)only[go_sem,simprocAttr]
 refine ak ?_
 refine ar.cU (X:=Nat) 0 (fun i=>[(0,.ptr 0 0),(13,.aq 11 (l.map ai.row)),(14,.int .i64 ((l.map ai.row).length:Int)),(15,.int .i64 (i:Int))]) (fun i=>vU (out++ai.fW (d+1) (l.take i)) (d+1)) (fun i=>qu (out++ai.fW (d+1) (l.take i))) (fun i=>i≤l.length) (fun i=>l.length-i) (bc3 _) ⟨rfl,rfl,rfl,rfl,trivial⟩ ⟨by simp only[bg2,ai.fW,bd8,bb8]; rfl,trivial⟩ ⟨by simp only[bg2,ai.fW,bd8]; rfl,trivial⟩ ?_
 intro i af
 try simp only at af ⊢
 have xj:=F9 (d+1) l i
 cases ad:l[i]? with
 |some v=>
  have cz:=(List.getElem?_eq_some_iff.1 ad).1
  have hD:=bc2 ad
  have a66:=ai.p3 hD
  have ny:iH v=true:=by simpa using List.all_eq_true.1 bo v hD
  have M9:=PH (d+1) ad
  have fq:out++ai.fW (d+1) (l.take (i+1))=(out++ai.fW (d+1) (l.take i))++ai.iL (d+1) [105,102,32] v:=by rw[Ga _ ad,bc8]
  have d1:(i:Int)<((l.map ai.row).length:Int):=by rw[bb5]; omega
  have iq:(out++ai.fW (d+1) (l.take i)).length+(ai.iL (d+1) [105,102,32] v).length≤1000000000:=by simp only[bb7]; omega
  generalize out++ai.fW (d+1) (l.take i)=Y at iq fq ⊢
  have e:=j1 v (d+1) Y (by omega) ny (by omega) iq
  generalize ai.iL (d+1) [105,102,32] v=n9 at e fq
  rcases v with ⟨ff,as8,⟨a00,a04,a02,a05,a03,a01⟩,aQ0,aK0,aK1⟩
  simp(disch:=omega)only[go_sem,simprocAttr]at e
  (have ae:=d1;refine bt ?_;clear ae)
  refine D.F ⟨[0],[0]⟩ (e) ?_
  refine ak ?_
  refine ar.jS (i+1) (by omega) ⟨rfl,rfl,rfl,by simp only[bb8]; rfl,trivial⟩ (by simp only[fq,vU,qp,bb8]; exact⟨rfl,trivial⟩) (by simp only[fq]; exact⟨rfl,trivial⟩) rfl (by simp only[im,dw,eA,eB,ia,I.du,bM.bY,vU,qp,mb,ai.cx,go_sem]<;>rfl) (by show l.length-(i+1)<l.length-i; omega)
 |none=>
  have b4:=List.getElem?_eq_none_iff.1 ad
  have bN:i=l.length:=by omega
  subst bN
  have d1: ¬(l.length:Int)<((l.map ai.row).length:Int):=by rw[bb5]; omega
  rw[bf1]
  (have ae:=d1;refine bt ?_;clear ae)
  refine D.r ?_
  refine⟨rfl,⟨?_,trivial⟩,rfl,trivial⟩
  simp only[vU,qp]
  rw[show ((d+1:Nat):Int)-1=(d:Int) by omega]
  rfl
theorem BH {k:Int}{m:bw}{t:Int}{lJ bP:Nat}(h:en k m t lJ bP=true):(k=1∧t=0∧lJ=0∧bP=0)∨(k=2∧m=[]∧t=0)∨(k=3∧m=[]∧1≤t∧t≤50∧bP=0):=by
 unfold en at h
 by_cases U:k=1
 ·simp [U]at h; simp [U,h.2.1,h.2.2.1,h.2.2.2]
 by_cases aa:k=2
 ·simp [aa]at h; simp [aa,h.1,h.2]
 by_cases aD:k=3
 ·simp [aD]at h; simp [aD,h.1,h.2.1,h.2.2.1,h.2.2.2]
 simp [U,aa,aD]at h
theorem xS {d:Nat}{s:bw}{ps:List bw}(h:s∈ps):s.length≤(eZ d ps).length:=by
 have: ∀(l:List bw),s∈l→s.length≤l.flatten.length:=by
  intro l
  induction l with
  |nil=>intro h; cases h
  |cons x l b7=>
   intro h
   rw[bd0,bb7]
   rcases List.mem_cons.1 h with rfl|h
   ·omega
   ·have:=b7 h; omega
 have:=this ps h
 simp only[eZ,bb7]
 omega
theorem ay3 {N:Nat}(dD:C9 N):AF (N+1):=by
 rintro⟨k,gp,x,t,ig,gV⟩ d out cP bo bG aG
 simp only[ai.cv]at cP bG
 simp only[iH,bb6]at bo
 obtain⟨a6,pX,pW,mq⟩:=bo
 have xf:x.cv≤1000000:=by omega
 rcases BH a6 with ⟨rfl,rfl,aa,aD⟩|⟨rfl,rfl,rfl⟩|⟨rfl,rfl,U,aa,aD⟩
 ·have bN:ai.iL d [105,102,32] (.mk 1 gp x 0 ig gV)=eZ d [gp,[32,61,32],cy x,[59]]:=by simp only[ai.iL,if_true]
  rw[bN]at aG ⊢
  have ao:(cy x).length≤1000000000:=by have:=xS (d:=d) (s:=cy x) (ps:=[gp,[32,61,32],cy x,[59]]) (by simp); omega
  have e:=(sW 1000000).1 x xf pX ao
  have el:=oL d (by omega) (.inr rfl) out [gp,[32,61,32],cy x,[59]] (by simp) aG
  generalize eZ d [gp,[32,61,32],cy x,[59]]=L at*
  generalize cy x=iM at*
  rcases x with ⟨fD,fH,fF,fI,fG,fE⟩
  simp(disch:=omega)only[go_sem,simprocAttr]at e
  refine bg.intro be Tryz.func313 DC ?_
  unfold Bh Cy
  simp(disch:=omega)only[go_sem,simprocAttr]
  iterate 3 refine iZ ?_
  repeat refine D.fg true true ?_
  refine ar.gC (anns:=[.str iM]) ?_
  refine b0 ?_
  refine D.ei (e) ?_
  refine b0 ?_
  refine D.F ⟨[0],[0]⟩ (el) ?_
  refine ak ?_
  refine D.r ?_
  exact⟨rfl,⟨rfl,trivial⟩,rfl,trivial⟩
 ·have cR: ∃F,F=out++ai.iL d [105,102,32] (.mk 2 [] x 0 ig gV):=⟨_,rfl⟩
  obtain⟨F,cR⟩:=cR
  have BC:F.length≤1000000000:=by rw[cR,bb7]; omega
  rw[←cR]
  rcases x with ⟨fD,fH,fF,fI,fG,fE⟩
  refine bg.intro be Tryz.func313 DC ?_
  unfold Bh Cy
  simp(disch:=omega)only[go_sem,simprocAttr]
  iterate 4 refine iZ ?_
  refine ak ?_
  refine ar.cU (X:=bw×au×List ai×List ai×bw) ([105,102,32],.mk fD fH fF fI fG fE,ig,gV,out) (fun y=>[(0,.ptr 0 0),(3,.ptr 1 0),(4,.str y.1)]) (fun y=>[(0,304,[.ptr 0 0,.own 0 1 (y.2.2.2.2.map ib),.int .i64 (d:Int)]),(1,82,(ai.mk 2 [] y.2.1 0 y.2.2.1 y.2.2.2.1).row)]) (fun y=>[(0,.bY 5 1 (y.2.2.2.2.map ib).length)]) (fun y=>fb y.2.1=true∧jt y.2.2.1=true∧jt y.2.2.2.1=true∧y.2.1.cv+ai.ch y.2.2.1+ai.ch y.2.2.2.1≤N∧d+(1+y.2.1.cv+ai.ch y.2.2.1+ai.ch y.2.2.2.1)≤1000000∧F=y.2.2.2.2++ai.iL d y.1 (.mk 2 [] y.2.1 0 y.2.2.1 y.2.2.2.1)) (fun y=>ai.ch y.2.2.2.1) ⟨pX,pW,mq,by simp only; omega,by simp only; omega,cR⟩ ⟨rfl,rfl,rfl,trivial⟩ ⟨rfl,by simp only[ai.cO,au.cO]; rfl,trivial⟩ ⟨rfl,trivial⟩ ?_
  rintro⟨EX,x,a,b,O⟩ ⟨pX,pW,mq,cP,bG,cR⟩
  simp only at pX pW mq cP bG cR ⊢
  have ZG:=congrArg bj6 cR
  simp only[ai.iL,show ¬(2:Int)=1 by decide,show ¬(2:Int)=3 by decide,if_false]at cR
  obtain⟨L,ec⟩: ∃L,L=eZ d [EX,cy x,[32,123]]:=⟨_,rfl⟩
  obtain⟨q8,sB⟩: ∃q8,q8=ai.fW (d+1) a:=⟨_,rfl⟩
  obtain⟨T,c4⟩: ∃T,T=(if mw b=true then ai.vc d b else (if b.isEmpty=true then[] else eZ d [[125,32,101,108,115,101,32,123]]++ai.fW (d+1) b)++eZ d [[125]]):=⟨_,rfl⟩
  rw[←ec,←sB,←c4]at cR
  have ZC:O.length+L.length+q8.length+T.length=F.length:=by rw[cR]; simp only[bb7]; omega
  have ao:(cy x).length≤1000000000:=by have:=xS (d:=d) (s:=cy x) (ps:=[EX,cy x,[32,123]]) (by simp); rw[←ec]at this; omega
  have e:=(sW 1000000).1 x (by omega) pX ao
  have el:=oL d (by omega) (.inr rfl) O [EX,cy x,[32,123]] (by simp) (by rw[←ec]; omega)
  rw[←ec]at el
  have je:=dD a d (O++L) (by omega) pW (by omega) (by rw[←sB,bb7]; omega)
  rw[←sB]at je
  clear ec sB ZG
  generalize cy x=iM at*
  rcases x with ⟨fD,fH,fF,fI,fG,fE⟩
  simp only[ai.cO,au.cO]
  simp(disch:=omega)only[go_sem,simprocAttr]at e
  refine ak ?_
  refine D.P (e) ?_
  refine ak ?_
  refine D.F ⟨[0],[0]⟩ (el) ?_
  refine ak ?_
  refine D.F ⟨[0],[0]⟩ (je) ?_
  have w7:F=(O++L++q8)++T:=by rw[cR]; simp only[bc8]
  have MP:(O++L++q8).length+T.length≤1000000000:=by simp only[bb7]; omega
  generalize O++L++q8=Y at w7 MP ⊢
  clear cR ZC el je e
  by_cases yU:b=[]
  ·subst yU
   simp only[mw,List.isEmpty_nil,bd5,if_false,if_true,bd6]at c4
   have qx:=oL d (by omega) (.inr rfl) Y [[125]] (by simp) (by rw[←c4]; exact MP)
   rw[←c4,←w7]at qx
   refine ak ?_
   refine D.F ⟨[0],[0]⟩ (qx) ?_
   refine ak ?_
   refine D.r ?_
   exact⟨rfl,⟨rfl,trivial⟩,rfl,trivial⟩
  cases fv:mw b with
  |true=>
   rw[fv,if_pos rfl]at c4
   match b,fv,mq,cP,bG,c4 with
   |[.mk q5 wq TK tb jN jD],fv,mq,cP,bG,c4=>
   have fv:q5=2:=of_decide_eq_true fv
   subst fv
   simp only[jt,iH,be0,bb6]at mq
   obtain⟨ah3,ah5,ah1,ah2⟩:=mq
   rcases BH ah3 with ⟨h,_⟩|⟨_,rfl,rfl⟩|⟨h,_⟩
   ·cases h
   rotate_left
   ·cases h
   simp only[ai.ch,ai.cv]at cP bG
   simp only[ai.vc]at c4
   rw[c4]at w7
   have ah4:ai.ch jD<ai.ch [ai.mk 2 [] TK 0 jN jD]:=by simp only[ai.ch,ai.cv]; omega
   rcases TK with ⟨TL,TP,TN,TQ,TO,TM⟩
   refine ak ?_
   refine ar.eC ([125,32,101,108,115,101,32,105,102,32],.mk TL TP TN TQ TO TM,jN,jD,Y) ⟨ah5,ah1,ah2,by simp only; omega,by simp only; omega,w7⟩ ⟨rfl,rfl,rfl,trivial⟩ ⟨rfl,by simp only[ai.cO,au.cO]; rfl,trivial⟩ ⟨rfl,trivial⟩ rfl rfl ah4
  |false=>
   have M7:b.isEmpty=false:=by cases b with|nil=>exact absurd rfl yU|cons _ _=>rfl
   rw[fv,M7]at c4
   simp only[bd5,if_false]at c4
   obtain⟨sh,BD⟩: ∃sh,sh=eZ d [[125,32,101,108,115,101,32,123]]:=⟨_,rfl⟩
   obtain⟨Ay,w6⟩: ∃Ay,Ay=ai.fW (d+1) b:=⟨_,rfl⟩
   obtain⟨E,dc⟩: ∃E,E=eZ d [[125]]:=⟨_,rfl⟩
   rw[←BD,←w6,←dc]at c4
   have MQ:=congrArg bj6 c4
   simp only[bb7]at MQ
   have ap:=oL d (by omega) (.inr rfl) Y [[125,32,101,108,115,101,32,123]] (by simp) (by rw[←BD]; omega)
   rw[←BD]at ap
   have ay:=dD b d (Y++sh) (by omega) mq (by omega) (by rw[←w6,bb7]; omega)
   rw[←w6]at ay
   have b1:=oL d (by omega) (.inr rfl) (Y++sh++Ay) [[125]] (by simp) (by rw[←dc]; simp only[bb7]; omega)
   rw[←dc]at b1
   have MO:F=Y++sh++Ay++E:=by rw[w7,c4]; simp only[bc8]
   clear c4 BD w6 dc w7 MQ
   by_cases hlen:b.length=1
   focus
    match b,hlen,fv with
    |[.mk q5 wq ⟨TL,TP,TN,TQ,TO,TM⟩ tb jN jD],_,fv=>
    have fv: ¬q5=2:=of_decide_eq_false fv
    simp(disch:=omega)only[go_sem,simprocAttr]at ay
    (have ae:=fv;refine bt ?_;clear ae)
    refine D.F ⟨[0],[0]⟩ (ap) ?_
    refine ak ?_
    refine D.F ⟨[0],[0]⟩ (ay) ?_
    refine ak ?_
    refine D.F ⟨[0],[0]⟩ (b1) ?_
    refine ak ?_
    refine D.r ?_
    rw[MO]
    exact⟨rfl,⟨rfl,trivial⟩,rfl,trivial⟩
   have mP:0<b.length:=by cases b with|nil=>exact absurd rfl yU|cons _ _=>simp
   have d5: ¬((b.map ai.row).length:Int)=1:=by rw[bb5]; omega
   have d6:(0:Int)<((b.map ai.row).length:Int):=by rw[bb5]; omega
   (have ae:=d5;have z2:=d6;refine dQ ?_;clear ae z2)
   refine D.F ⟨[0],[0]⟩ (ap) ?_
   refine ak ?_
   refine D.F ⟨[0],[0]⟩ (ay) ?_
   refine ak ?_
   refine D.F ⟨[0],[0]⟩ (b1) ?_
   refine ak ?_
   refine D.r ?_
   rw[MO]
   exact⟨rfl,⟨rfl,trivial⟩,rfl,trivial⟩
 ·have bN:ai.iL d [105,102,32] (.mk 3 [] x t ig gV)=eZ d [[119,104,105,108,101,32],cy x,[32,116,105,109,101,115,32],Lib.itoa t,[32,123]]++ai.fW (d+1) ig++eZ d [[125]]:=by simp only[ai.iL,show ¬(3:Int)=1 by decide,if_false,if_true]
  rw[bN]at aG ⊢
  obtain⟨L,ec⟩: ∃L,L=eZ d [[119,104,105,108,101,32],cy x,[32,116,105,109,101,115,32],Lib.itoa t,[32,123]]:=⟨_,rfl⟩
  obtain⟨q8,sB⟩: ∃q8,q8=ai.fW (d+1) ig:=⟨_,rfl⟩
  obtain⟨E,dc⟩: ∃E,E=eZ d [[125]]:=⟨_,rfl⟩
  rw[←ec,←sB,←dc]at aG ⊢
  simp only[bb7]at aG
  have ao:(cy x).length≤1000000000:=by have:=xS (d:=d) (s:=cy x) (ps:=[[119,104,105,108,101,32],cy x,[32,116,105,109,101,115,32],Lib.itoa t,[32,123]]) (by simp); rw[←ec]at this; omega
  have e:=(sW 1000000).1 x xf pX ao
  have tD:=zM t (by omega) (by omega)
  have el:=oL d (by omega) (.inr rfl) out [[119,104,105,108,101,32],cy x,[32,116,105,109,101,115,32],Lib.itoa t,[32,123]] (by simp) (by rw[←ec]; omega)
  rw[←ec]at el
  have je:=dD ig d (out++L) (by omega) pW (by omega) (by rw[←sB,bb7]; omega)
  rw[←sB]at je
  have qx:=oL d (by omega) (.inr rfl) (out++L++q8) [[125]] (by simp) (by rw[←dc]; simp only[bb7]; omega)
  rw[←dc]at qx
  clear ec sB dc
  generalize cy x=iM at*
  generalize Lib.itoa t=aL4 at*
  rcases x with ⟨fD,fH,fF,fI,fG,fE⟩
  simp(disch:=omega)only[go_sem,simprocAttr]at e
  refine bg.intro be Tryz.func313 DC ?_
  unfold Bh Cy
  simp(disch:=omega)only[go_sem,simprocAttr]
  iterate 4 refine iZ ?_
  repeat refine D.fg true true ?_
  refine ar.gC (anns:=[.str iM,.str aL4]) ?_
  refine b0 ?_
  refine D.ei (e) ?_
  refine b0 ?_
  refine D.ei (tD) ?_
  refine b0 ?_
  refine D.F ⟨[0],[0]⟩ (el) ?_
  refine ak ?_
  refine D.F ⟨[0],[0]⟩ (je) ?_
  refine ak ?_
  refine D.F ⟨[0],[0]⟩ (qx) ?_
  refine ak ?_
  refine D.r ?_
  refine⟨rfl,⟨?_,trivial⟩,?_,trivial⟩
  ·simp only[vU,qp,bc8]; rfl
  ·simp only[qu,bc8]; rfl
theorem PJ: ∀N,AF N∧C9 N
 |0=>by
  have h:AF 0:=fun x d out h=>by cases x; simp only[ai.cv]at h; omega
  exact⟨h,Py h⟩
 |N+1=>by
  have h:=ay3 (PJ N).2
  exact⟨h,Py h⟩
end
section
attribute [local go_sem] ib mb au.cO au.cx au.dd ai.cO ai.cx ai.dd cf dn fo gv dF of_flat bJ.row dW fX
theorem vL {α:Type}(f:α→bw){l:List α}{i:Nat}{v:α}(h:l[i]? =some v):((l.take (i+1)).map f).flatten=((l.take i).map f).flatten++f v:=by
 rw[bf5,h]; simp
theorem B8 {α:Type}(f:α→bw) (l:List α) (i:Nat):((l.take i).map f).flatten.length≤(l.map f).flatten.length:=by
 conv=>rhs; rw[←bj5 i l]
 rw[be5,bm8,bb7]
 omega
theorem zz {α:Type}(f:α→bw){l:List α}{i:Nat}{v:α}(h:l[i]? =some v):((l.take i).map f).flatten.length+(f v).length≤(l.map f).flatten.length:=by
 have:=B8 f l (i+1)
 rw[vL f h,bb7]at this
 exact this
theorem EH {v:bJ}(h:k6 v=true): -1000000000≤v.b3∧v.b3≤1000000000∧ -1000000000≤v.af∧v.af≤1000000000∧(v.dG≠2→ -1000000000≤v.n∧v.n≤1000000000)∧v.s.length≤40:=by
 simp only[k6,bb6,jq,decide_eq_true_eq]at h
 obtain⟨_,U,aa,_,aD⟩:=h
 by_cases br:v.dG=1
 ·rw[if_pos br]at aD
  simp only[bb6,decide_eq_true_eq]at aD
  exact⟨by omega,by omega,by omega,by omega,fun _=>by omega,by rw[aD.2]; decide⟩
 rw[if_neg br]at aD
 by_cases bB:v.dG=2
 ·rw[if_pos bB]at aD
  simp only[bb6,decide_eq_true_eq,oc]at aD
  exact⟨by omega,by omega,by omega,by omega,fun h=>absurd bB h,aD.2.1⟩
 ·rw[if_neg bB]at aD
  cases aD
theorem EE {h:bS}(bo:lR h=true):jt h.body=true∧h.ps.length≤4:=by
 simp only[lR,bb6,decide_eq_true_eq]at bo
 rw[w4]
 exact⟨bo.2.2.2.2.1,bo.2.2.1⟩
theorem EF {o:cn}(bo:mn o=true):o.args.all fb=true∧o.eb.all fb=true∧o.eb.length≤1:=by
 simp only[mn,bb6,decide_eq_true_eq,List.all_append]at bo
 exact⟨bo.2.2.2.2.1.1,bo.2.2.2.2.1.2,bo.2.2.2.1⟩
structure De (x:cQ):Prop where
 aq:x.vars.all k6=true
 ao:x.ao.all lR=true
 os:x.os.all mn=true
 aS: ∀h∈x.ao,ai.ch h.body≤900000
 qT: ∀o∈x.os,au.ch o.args≤900000∧au.ch o.eb≤900000
 lZ:x.vars.length≤1000000
 lY:x.ao.length≤1000000
 no:x.os.length≤1000000
 len:(nQ x).length≤900000000
theorem aD4 (x:cQ) (ab:De x):Pure bb4 116 [x.eL] (.str (nQ x)):=by
 have cR:=ab.len
 have Fi:=ab.lZ
 have Ff:=ab.lY
 have Fh:=ab.no
 obtain⟨F,o7⟩: ∃F,F=nQ x:=⟨_,rfl⟩
 rw[←o7]at cR ⊢
 unfold nQ at o7
 obtain⟨H0,w8⟩: ∃H0,H0=eZ 0 [[115,101,114,118,105,99,101,32],x.name,[32,112,108,97,121,115,32],x.bO,[32,111,102,32],x.fM,[32,123]]:=⟨_,rfl⟩
 obtain⟨E,dc⟩: ∃E,E=eZ 0 [[125]]:=⟨_,rfl⟩
 rw[←w8,←dc]at o7
 have BC:=congrArg bj6 o7
 simp only[bb7]at BC
 have ap:=oL 0 (by decide) (.inl rfl) [] [[115,101,114,118,105,99,101,32],x.name,[32,112,108,97,121,115,32],x.bO,[32,111,102,32],x.fM,[32,123]] (by simp) (by rw[←w8,bc4]; omega)
 rw[←w8,bd6]at ap
 rw[oa]
 refine cw be Tryz.func116 U8 (by simp only[b2,I.flat,dW,dF,of_flat,bc0]) rfl ?_
 unfold J9 Qe
 simp(disch:=omega)only[go_sem,simprocAttr]
 iterate 2 refine iZ ?_
 refine ar.vi 1 1 1 5 rfl rfl (by decide) ?_
 simp(disch:=omega)only[go_sem,simprocAttr]
 refine ak ?_
 refine D.F ⟨[1],[0]⟩ (ap) ?_
 refine ak ?_
 clear ap
 obtain⟨V,tO⟩: ∃V,V=H0++(x.vars.map kl).flatten:=⟨_,rfl⟩
 have MR:V.length=H0.length+(x.vars.map kl).flatten.length:=by rw[tO,bb7]
 refine ar.cU (X:=Nat) 0 (fun i=>[(1,.ptr 0 0),(3,.ptr 1 0),(27,.aq 7 (x.vars.map bJ.row)),(28,.int .i64 ((x.vars.map bJ.row).length:Int)),(29,.int .i64 (i:Int))]) (fun i=>[(0,48,x.cells),(1,304,[.ptr 1 0,.own 0 1 ((H0++((x.vars.take i).map kl).flatten).map ib),.int .i64 1])]) (fun i=>[(0,.bY 5 1 ((H0++((x.vars.take i).map kl).flatten).map ib).length)]) (fun i=>i≤x.vars.length) (fun i=>x.vars.length-i) (bc3 _) ⟨rfl,rfl,rfl,rfl,rfl,trivial⟩ ⟨rfl,by simp only[bg2,bg5,be3,bd8]; rfl,trivial⟩ ⟨by simp only[bg2,bg5,be3,bd8]; rfl,trivial⟩ ?_
 intro i af
 try simp only at af ⊢
 cases ad:x.vars[i]? with
 |some v=>
  have cz:=(List.getElem?_eq_some_iff.1 ad).1
  have hD:=bc2 ad
  have ny:k6 v=true:=by simpa using List.all_eq_true.1 ab.aq v hD
  have gm:=vL kl ad
  have hle:=zz kl ad
  have d1:(i:Int)<((x.vars.map bJ.row).length:Int):=by rw[bb5]; omega
  obtain⟨Y,iq⟩: ∃Y,Y=H0++((x.vars.take i).map kl).flatten:=⟨_,rfl⟩
  have fq:H0++((x.vars.take (i+1)).map kl).flatten=Y++kl v:=by rw[gm,iq,bc8]
  have xa:Y.length+(kl v).length≤900000000:=by rw[iq,bb7]; omega
  obtain⟨g1,g2,g3,g4,g5,g6⟩:=EH ny
  obtain⟨s1,pb⟩: ∃s1,s1=Lib.itoa v.b3:=⟨_,rfl⟩
  obtain⟨s2,pc⟩: ∃s2,s2=Lib.itoa v.af:=⟨_,rfl⟩
  obtain⟨qb,Fs⟩: ∃qb,qb=ua v.dG v.n v.s:=⟨_,rfl⟩
  have fU:=zM v.b3 g1 g2
  have hX:=zM v.af g3 g4
  have fV:=az8 v.dG v.n v.s g5 (by omega)
  have xq:kl v=eZ 1 [[118,97,114,32],v.name,[58,32],if v.fB=2 then[116,101,120,116,32] else[105,110,116,32],s1,[32,46,46,32],s2,[32,61,32],qb,[59]]:=by rw[pb,pc,Fs]; rfl
  rw[←pb]at fU
  rw[←pc]at hX
  rw[←Fs]at fV
  rw[←iq]
  generalize kl v=L at*
  clear gm hle iq pb pc Fs
  by_cases aa:v.fB=2
  focus
   rw[if_pos aa]at xq
   have e:=oL 1 (by decide) (.inr rfl) Y [[118,97,114,32],v.name,[58,32],[116,101,120,116,32],s1,[32,46,46,32],s2,[32,61,32],qb,[59]] (by simp) (by rw[←xq]; omega)
   rw[←xq]at e
   (have ae:=d1;have z2:=aa;refine fj ?_;refine fj ?_;refine fj ?_;refine fj ?_;refine fj ?_;clear ae z2)
   (have ae:=d1;have z2:=aa;refine ya ?_;clear ae z2)
  rotate_left
  focus
   rw[if_neg aa]at xq
   have e:=oL 1 (by decide) (.inr rfl) Y [[118,97,114,32],v.name,[58,32],[105,110,116,32],s1,[32,46,46,32],s2,[32,61,32],qb,[59]] (by simp) (by rw[←xq]; omega)
   rw[←xq]at e
   (have ae:=d1;have z2:=aa;refine fj ?_;refine fj ?_;refine fj ?_;refine fj ?_;clear ae z2)
   (have ae:=d1;have z2:=aa;refine ya ?_;clear ae z2)
  all_goals
   refine ar.gC (anns:=[.str s1,.str s2,.str qb]) ?_
   (have ae:=aa;refine th ?_;clear ae)
   refine D.ei (fU) ?_
   refine b0 ?_
   refine D.ei (hX) ?_
   refine b0 ?_
   refine D.ei (fV) ?_
   refine b0 ?_
   refine D.F ⟨[1],[0]⟩ (e) ?_
   refine ak ?_
   refine ar.jS (i+1) (by omega) ⟨rfl,rfl,rfl,rfl,by simp only[bb8]; rfl,trivial⟩ (by simp only[fq]; exact⟨rfl,rfl,trivial⟩) (by simp only[fq]; exact⟨rfl,trivial⟩) rfl (by simp only[im,dw,eA,eB,ia,I.du,bM.bY,fX,mb,dW,dF,of_flat,go_sem]<;>rfl) (by show x.vars.length-(i+1)<x.vars.length-i; omega)
 |none=>
 have b4:=List.getElem?_eq_none_iff.1 ad
 have bN:i=x.vars.length:=by omega
 subst bN
 have d1: ¬(x.vars.length:Int)<((x.vars.map bJ.row).length:Int):=by rw[bb5]; omega
 rw[bf1,←tO]
 rw[←tO]at o7
 clear af ad b4
 obtain⟨pH,ER⟩: ∃pH,pH=V++(x.ao.map jg).flatten:=⟨_,rfl⟩
 have a39:pH.length=V.length+(x.ao.map jg).flatten.length:=by rw[ER,bb7]
 (have ae:=d1;refine bt ?_;clear ae)
 refine ar.cU (X:=Nat) 0 (fun i=>[(1,.ptr 0 0),(3,.ptr 1 0),(56,.aq 4 (x.ao.map bS.row)),(57,.int .i64 ((x.ao.map bS.row).length:Int)),(58,.int .i64 (i:Int))]) (fun i=>[(0,48,x.cells),(1,304,[.ptr 1 0,.own 0 1 ((V++((x.ao.take i).map jg).flatten).map ib),.int .i64 1])]) (fun i=>[(0,.bY 5 1 ((V++((x.ao.take i).map jg).flatten).map ib).length)]) (fun i=>i≤x.ao.length) (fun i=>x.ao.length-i) (bc3 _) ⟨rfl,rfl,rfl,rfl,rfl,trivial⟩ ⟨rfl,by simp only[bg2,bg5,be3,bd8]; rfl,trivial⟩ ⟨by simp only[bg2,bg5,be3,bd8]; rfl,trivial⟩ ?_
 intro i af
 try simp only at af ⊢
 cases ad:x.ao[i]? with
 |some v=>
  have cz:=(List.getElem?_eq_some_iff.1 ad).1
  have hD:=bc2 ad
  have ny:lR v=true:=by simpa using List.all_eq_true.1 ab.ao v hD
  have xe:=ab.aS v hD
  have gm:=vL jg ad
  have hle:=zz jg ad
  have d1:(i:Int)<((x.ao.map bS.row).length:Int):=by rw[bb5]; omega
  obtain⟨Y,iq⟩: ∃Y,Y=V++((x.ao.take i).map jg).flatten:=⟨_,rfl⟩
  have fq:V++((x.ao.take (i+1)).map jg).flatten=Y++jg v:=by rw[gm,iq,bc8]
  have xa:Y.length+(jg v).length≤900000000:=by rw[iq,bb7]; omega
  obtain⟨g1,g2⟩:=EE ny
  obtain⟨s1,pb⟩: ∃s1,s1=Lib.join v.ps [44,32]:=⟨_,rfl⟩
  obtain⟨L,ec⟩: ∃L,L=eZ 1 [[111,110,32],v.da,[40],s1,[41,32,102,114,111,109,32],v.peer,[32,123]]:=⟨_,rfl⟩
  obtain⟨B,dD⟩: ∃B,B=ai.fW (1+1) v.body:=⟨_,rfl⟩
  obtain⟨Z,xb⟩: ∃Z,Z=eZ 1 [[125]]:=⟨_,rfl⟩
  have y7:jg v=L++B++Z:=by rw[ec,dD,xb,pb]; rfl
  rw[y7]at xa fq
  simp only[bb7]at xa
  have af5:s1.length≤L.length:=by rw[ec]; exact xS (by simp)
  have fU:=Ps v.ps [44,32] (by omega) (by rw[←pb]; omega)
  have e:=oL 1 (by decide) (.inr rfl) Y [[111,110,32],v.da,[40],s1,[41,32,102,114,111,109,32],v.peer,[32,123]] (by simp) (by rw[←ec]; omega)
  have je:=(PJ 1000000).2 v.body 1 (Y++L) (by omega) g1 (by omega) (by rw[←dD,bb7]; omega)
  have qx:=oL 1 (by decide) (.inr rfl) (Y++L++B) [[125]] (by simp) (by rw[←xb,bb7,bb7]; omega)
  rw[←pb]at fU
  rw[←ec]at e
  rw[←dD]at je
  rw[←xb]at qx
  have BX:V++((x.ao.take (i+1)).map jg).flatten=Y++L++B++Z:=by rw[fq]; simp only[bc8]
  rw[←iq]
  clear gm fq hle iq pb ec dD xb y7
  (have ae:=d1;refine gN ?_;refine gN ?_;clear ae)
  (have ae:=d1;refine x9 ?_;clear ae)
  refine ar.gC (anns:=[.str s1]) ?_
  refine b0 ?_
  refine D.ei (fU) ?_
  refine b0 ?_
  refine D.F ⟨[1],[0]⟩ (e) ?_
  refine ak ?_
  refine D.F ⟨[1],[0]⟩ (je) ?_
  refine ak ?_
  refine D.F ⟨[1],[0]⟩ (qx) ?_
  refine ak ?_
  refine ar.jS (i+1) (by omega) ⟨rfl,rfl,rfl,rfl,by simp only[bb8]; rfl,trivial⟩ (by simp only[BX]; exact⟨rfl,rfl,trivial⟩) (by simp only[BX]; exact⟨rfl,trivial⟩) rfl (by simp only[im,dw,eA,eB,ia,I.du,bM.bY,fX,mb,dW,dF,of_flat,go_sem]<;>rfl) (by show x.ao.length-(i+1)<x.ao.length-i; omega)
 |none=>
 have b4:=List.getElem?_eq_none_iff.1 ad
 have bN:i=x.ao.length:=by omega
 subst bN
 have d1: ¬(x.ao.length:Int)<((x.ao.map bS.row).length:Int):=by rw[bb5]; omega
 rw[bf1,←ER]
 rw[←ER]at o7
 clear af ad b4
 (have ae:=d1;refine bt ?_;clear ae)
 refine ar.cU (X:=Nat) 0 (fun i=>[(1,.ptr 0 0),(3,.ptr 1 0),(81,.aq 4 (x.os.map cn.row)),(82,.int .i64 ((x.os.map cn.row).length:Int)),(83,.int .i64 (i:Int))]) (fun i=>[(1,304,[.ptr 1 0,.own 0 1 ((pH++((x.os.take i).map jQ).flatten).map ib),.int .i64 1])]) (fun i=>[(0,.bY 5 1 ((pH++((x.os.take i).map jQ).flatten).map ib).length)]) (fun i=>i≤x.os.length) (fun i=>x.os.length-i) (bc3 _) ⟨rfl,rfl,rfl,rfl,rfl,trivial⟩ ⟨by simp only[bg2,bg5,be3,bd8]; rfl,trivial⟩ ⟨by simp only[bg2,bg5,be3,bd8]; rfl,trivial⟩ ?_
 intro i af
 try simp only at af ⊢
 cases ad:x.os[i]? with
 |some v=>
  have cz:=(List.getElem?_eq_some_iff.1 ad).1
  have hD:=bc2 ad
  have ny:mn v=true:=by simpa using List.all_eq_true.1 ab.os v hD
  obtain⟨xe,MY⟩:=ab.qT v hD
  have gm:=vL jQ ad
  have hle:=zz jQ ad
  have d1:(i:Int)<((x.os.map cn.row).length:Int):=by rw[bb5]; omega
  obtain⟨Y,iq⟩: ∃Y,Y=pH++((x.os.take i).map jQ).flatten:=⟨_,rfl⟩
  have fq:pH++((x.os.take (i+1)).map jQ).flatten=Y++jQ v:=by rw[gm,iq,bc8]
  have xa:Y.length+(jQ v).length≤900000000:=by rw[iq,bb7]; omega
  obtain⟨g1,g2,g3⟩:=EF ny
  obtain⟨s1,pb⟩: ∃s1,s1=Lib.join (v.args.map cy) [44,32]:=⟨_,rfl⟩
  obtain⟨s2,pc⟩: ∃s2,s2=r9 v.eb:=⟨_,rfl⟩
  obtain⟨L,ec⟩: ∃L,L=eZ 1 [[111,102,102,101,114,32],v.da,[40],s1,[41,32,116,111,32],v.peer,s2,[59]]:=⟨_,rfl⟩
  have y7:jQ v=L:=by rw[ec,pb,pc]; rfl
  rw[y7]at xa fq
  have af5:s1.length≤L.length:=by rw[ec]; exact xS (by simp)
  have a61:s2.length≤L.length:=by rw[ec]; exact xS (by simp)
  have fU:=az9 v.args (by omega) g1 (by rw[←pb]; omega)
  have e:=oL 1 (by decide) (.inr rfl) Y [[111,102,102,101,114,32],v.da,[40],s1,[41,32,116,111,32],v.peer,s2,[59]] (by simp) (by rw[←ec]; omega)
  rw[←pb]at fU
  rw[←ec]at e
  rw[←iq]
  clear gm hle iq pb ec y7
  cases hw:v.eb with
  |nil=>
   rw[hw]at pc
   simp only[r9]at pc
   (have ae:=d1;have z2:=hw;refine fj ?_;refine fj ?_;refine fj ?_;refine fj ?_;clear ae z2)
   (have ae:=d1;have z2:=hw;refine ya ?_;clear ae z2)
   refine ar.gC (anns:=[.str s1]) ?_
   (have ae:=hw;refine th ?_;clear ae)
   refine D.ei (fU) ?_
   refine b0 ?_
   subst pc
   refine D.F ⟨[1],[0]⟩ (e) ?_
   refine ak ?_
   refine ar.jS (i+1) (by omega) ⟨rfl,rfl,rfl,rfl,by simp only[bb8]; rfl,trivial⟩ (by simp only[fq]; exact⟨rfl,trivial⟩) (by simp only[fq]; exact⟨rfl,trivial⟩) rfl (by simp only[im,dw,eA,eB,ia,I.du,bM.bY,fX,mb,dW,dF,of_flat,go_sem]<;>rfl) (by show x.os.length-(i+1)<x.os.length-i; omega)
  |cons w ws=>
   rw[hw]at pc g2 MY
   simp only[r9]at pc
   have ag7:ws=[]:=by
    rw[hw]at g3
    simp only[bb9]at g3
    exact List.length_eq_zero_iff.1 (by omega)
   subst ag7
   have ag6:fb w=true:=by simpa using g2
   simp only[au.ch]at MY
   have Nt:=congrArg bj6 pc
   simp only[bb7]at Nt
   have Er:=(sW 1000000).1 w (by omega) ag6 (by omega)
   generalize cy w=ii at pc Nt Er
   rcases w with ⟨fD,fH,fF,fI,fG,fE⟩
   simp(disch:=omega)only[go_sem,simprocAttr]at Er
   (have ae:=d1;have z2:=hw;refine fj ?_;refine fj ?_;refine fj ?_;refine fj ?_;clear ae z2)
   (have ae:=d1;have z2:=hw;refine ya ?_;clear ae z2)
   refine ar.c9 ?_
   (have ae:=hw;refine th ?_;clear ae)
   refine D.P (Er) ?_
   refine D.bU ?_
   refine b0 ?_
   (have ae:=hw;refine x9 ?_;clear ae)
   refine ar.gC (anns:=[.str s1]) ?_
   (have ae:=hw;refine th ?_;clear ae)
   refine D.ei (fU) ?_
   refine b0 ?_
   subst pc
   refine D.F ⟨[1],[0]⟩ (e) ?_
   refine ak ?_
   refine ar.jS (i+1) (by omega) ⟨rfl,rfl,rfl,rfl,by simp only[bb8]; rfl,trivial⟩ (by simp only[fq]; exact⟨rfl,trivial⟩) (by simp only[fq]; exact⟨rfl,trivial⟩) rfl (by simp only[im,dw,eA,eB,ia,I.du,bM.bY,fX,mb,dW,dF,of_flat,go_sem]<;>rfl) (by show x.os.length-(i+1)<x.os.length-i; omega)
 |none=>
 have b4:=List.getElem?_eq_none_iff.1 ad
 have bN:i=x.os.length:=by omega
 subst bN
 have d1: ¬(x.os.length:Int)<((x.os.map cn.row).length:Int):=by rw[bb5]; omega
 rw[bf1]
 have iq:(pH++(x.os.map jQ).flatten).length+E.length≤900000000:=by rw[bb7]; omega
 rw[o7]
 generalize pH++(x.os.map jQ).flatten=Y at iq ⊢
 have qx:=oL 0 (by decide) (.inr rfl) Y [[125]] (by simp) (by rw[←dc]; omega)
 rw[←dc]at qx
 have eg:Y++E≠[]:=by rw[dc]; simp [eZ]
 (have ae:=d1;refine bt ?_;clear ae)
 refine D.F ⟨[1],[0]⟩ (qx) ?_
 refine ak ?_
 refine D.F ⟨[1],[0]⟩ (t129 (T:=304) (A:= .ptr 0 0) (cs:=[.int .i64 0]) trivial (Y++E) eg) ?_
 refine ak ?_
 exact D.rx
end
end Go.ba.T.N
namespace Go.ba
open Go Go.ba.T.N
theorem xM: ∀s:bw,(jR s).length≤2*s.length
 |[]=>bc1 _
 |c::s=>by
  have:=xM s
  simp only[jR,bb7,bb9]
  split<;>simp<;>omega
theorem P0 (s:bw):(vY s).length≤2*s.length+2:=by
 have:=xM s
 simp only[vY,bb7,bb9,bc4]
 omega
theorem vE {n:Int}(aW: -1000000000≤n) (U:n≤1000000000):(Lib.itoa n).length≤21:=Lib.itoa_length_le n (by omega) (by omega)
theorem s9 {s:bw}(h:ev s=true):s.length≤16:=by
 cases s with
 |nil=>simp
 |cons c s=>
  simp only[ev,ub,bb6,decide_eq_true_eq]at h
  exact h.1.1
theorem FZ (x:au) (s:bw) (k:Int):(ie x s k).length≤s.length+2:=by
 unfold ie
 split
 ·simp
 ·omega
theorem ay1 {s:bw}(h:gd s≠0):s.length≤2:=by
 by_cases aa:s.length≤2
 ·exact aa
 ·exfalso
  apply h
  unfold gd
  repeat rw[if_neg (by intro e; subst e; simp at aa)]
theorem zX: ∀(N:Nat) (x:au),x.cv≤N→fb x=true→(cy x).length≤90*x.cv
 |0,x,h,_=>by cases x; simp only[au.cv]at h; omega
 |N+1,⟨k,o,m,t,n,l⟩,cP,bo=>by
  simp only[au.cv]at cP ⊢
  simp only[fb,bb6]at bo
  obtain⟨a6,hq⟩:=bo
  have pY:=a6
  simp only[cy,CJ]
  unfold Bw
  rcases E3 a6 with ⟨rfl,aW,U,aa⟩|⟨rfl,aW,U⟩|⟨rfl,aW⟩|⟨rfl,aW⟩|⟨rfl,aW⟩|⟨rfl,aW⟩
  ·have:=vE (n:=n) (by omega) (by omega)
   simp only[if_true]
   omega
  ·have:=P0 t
   simp only[show ¬(2:Int)=1 by decide,if_false,if_true]
   omega
  ·have:m.length≤16:=by
    simp [fp]at pY
    exact s9 pY.1
   simp only[show ¬(3:Int)=1 by decide,show ¬(3:Int)=2 by decide,if_false,if_true]
   omega
  ·match l,aW with
   |[x],_=>
   simp only[mm,be0]at hq
   simp only[au.ch]at cP ⊢
   have:=zX N x (by omega) hq
   simp only[show ¬(4:Int)=1 by decide,show ¬(4:Int)=2 by decide,show ¬(4:Int)=3 by decide,if_false,if_true,bd4,NZ,bb7,bb9,bc4]
   omega
  ·match l,aW with
   |[x],_=>
   simp only[mm,be0]at hq
   simp only[au.ch]at cP ⊢
   have U:=zX N x (by omega) hq
   have aa:=FZ x (cy x) 7
   have aD:o.length=1:=by
    simp [fp]at pY
    rcases pY.1 with rfl|rfl<;>rfl
   simp only[show ¬(5:Int)=1 by decide,show ¬(5:Int)=2 by decide,show ¬(5:Int)=3 by decide,show ¬(5:Int)=4 by decide,if_false,if_true,bd4,Tt,bb7]
   omega
  ·match l,aW with
   |[x,y],_=>
   simp only[mm,be0,bb6]at hq
   simp only[au.ch]at cP ⊢
   have U:=zX N x (by omega) hq.1
   have tM:=zX N y (by omega) hq.2
   have aa:=FZ x (cy x) (gd o)
   have MH:=FZ y (cy y) (gd o+1)
   have aD:o.length≤2:=by
    simp [fp]at pY
    exact ay1 pY.1
   simp only[show ¬(6:Int)=1 by decide,show ¬(6:Int)=2 by decide,show ¬(6:Int)=3 by decide,show ¬(6:Int)=4 by decide,show ¬(6:Int)=5 by decide,if_false,bd4,Ix,bb7,bb9,bc4]
   omega
theorem sN (d:Nat) (ps:List bw):(eZ d ps).length=d+ps.flatten.length+1:=by simp only[eZ,bb7,bg7,bb9,bc4]
theorem G0 {x:au}(h:fb x=true):(cy x).length≤90*x.cv:=zX _ x (bc1 _) h
theorem PG: ∀(N:Nat),(∀(x:ai) (d:Nat) (bG:bw),x.cv≤N→iH x=true→d+kv x≤20→bG.length≤10→(ai.iL d bG x).length≤250*x.cv)∧(∀(l:List ai) (d:Nat),ai.ch l≤N→jt l=true→d+iG l≤20→(ai.fW d l).length≤250*ai.ch l)
 |0=>⟨fun x d bG h=>by cases x; simp only[ai.cv]at h; omega,fun l d h bo bG=>by
  cases l with
  |nil=>simp [ai.fW]
  |cons x l=>cases x; simp only[ai.ch,ai.cv]at h; omega⟩
 |N+1=>by
  obtain⟨i1,i2⟩:=PG N
  have key: ∀(x:ai) (d:Nat) (bG:bw),x.cv≤N+1→iH x=true→d+kv x≤20→bG.length≤10→(ai.iL d bG x).length≤250*x.cv:=by
   rintro⟨k,m,x,t,a,b⟩ d bG cP bo tQ a50
   simp only[ai.cv]at cP ⊢
   simp only[iH,bb6]at bo
   obtain⟨a6,pX,pW,mq⟩:=bo
   simp only[kv]at tQ
   have ab:=G0 pX
   have E1:1≤iR x:=by cases x; simp only[iR]; omega
   rcases BH a6 with ⟨rfl,rfl,aa,aD⟩|⟨rfl,rfl,rfl⟩|⟨rfl,rfl,U,aa,aD⟩
   ·have hm:m.length≤16:=by
     simp [en]at a6
     exact s9 a6.1
    simp only[ai.iL,if_true,sN,bd0,be3,bb7,bb9,bc4]
    omega
   ·have aS:=i2 a (d+1) (by omega) pW (by omega)
    simp only[ai.iL,show ¬(2:Int)=1 by decide,show ¬(2:Int)=3 by decide,if_false,sN,bd0,be3,bb7,bb9,bc4]
    have hb:(if mw b=true then ai.vc d b else (if b.isEmpty=true then[] else eZ d [[125,32,101,108,115,101,32,123]]++ai.fW (d+1) b)++eZ d [[125]]).length≤250*ai.ch b+60:=by
     cases fv:mw b with
     |true=>
      match b,fv,mq,cP,tQ with
      |[y],fv,mq,cP,tQ=>
      simp only[jt,be0]at mq
      simp only[ai.ch]at cP ⊢
      simp only[iG]at tQ
      simp only[if_true,ai.vc]
      have:=i1 y d [125,32,101,108,115,101,32,105,102,32] (by omega) mq (by omega) (by decide)
      omega
     |false=>
      simp only[bd5,if_false]
      cases M7:b.isEmpty with
      |true=>
       simp only[if_true,bd6,sN,bd0,be3,bb7,bb9,bc4]
       omega
      |false=>
       have gH:=i2 b (d+1) (by omega) mq (by omega)
       simp only[bd5,if_false,sN,bd0,be3,bb7,bb9,bc4]
       omega
    omega
   ·have aS:=i2 a (d+1) (by omega) pW (by omega)
    have af:=vE (n:=t) (by omega) (by omega)
    simp only[ai.iL,show ¬(3:Int)=1 by decide,if_false,if_true,sN,bd0,be3,bb7,bb9,bc4]
    omega
  have an7: ∀(l:List ai) (d:Nat),ai.ch l≤N+1→jt l=true→d+iG l≤20→(ai.fW d l).length≤250*ai.ch l:=by
   intro l
   induction l with
   |nil=>intro d _ _ _; simp [ai.fW]
   |cons x l b7=>
    intro d cP bo tQ
    simp only[ai.ch]at cP ⊢
    simp only[jt,bb6]at bo
    simp only[iG]at tQ
    have U:=key x d [105,102,32] (by omega) bo.1 (by omega) (by decide)
    have aa:=b7 d (by omega) bo.2 (by omega)
    simp only[ai.fW,bb7]
    omega
  exact⟨key,an7⟩
theorem Bv {α:Type}(f:α→bw) (B:Nat): ∀l:List α,(∀x∈l,(f x).length≤B)→((l.map f).flatten).length≤B*l.length
 |[],_=>by simp
 |x::l,h=>by
  have U:=h x (by simp)
  have aa:=Bv f B l fun y a8=>h y (bh4 _ a8)
  simp only[bd4,bd0,bb7,bb9,Nat.mul_add]
  omega
theorem NL (sep:bw) (B:Nat) (l:List bw) (h: ∀x∈l,x.length≤B):(Lib.join l sep).length≤(B+sep.length)*l.length:=by
 cases l with
 |nil=>simp [Lib.join_nil]
 |cons x r=>
  rw[Lib.join_length]
  have: ∀l:List bw,(∀x∈l,x.length≤B)→Lib.lens l≤B*l.length:=by
   intro l
   induction l with
   |nil=>intro _; simp [Lib.lens]
   |cons y l b7=>
    intro h
    have U:=h y (by simp)
    have aa:=b7 fun z aw=>h z (bh4 _ aw)
    simp only[Lib.lens,bb9,Nat.mul_add,bd4,List.sum_cons]at aa ⊢
    omega
  have U:=this (x::r) h
  have aa:sep.length*r.length≤sep.length*(x::r).length:=bm7 _ (by simp)
  rw[Nat.add_mul]
  omega
theorem Ye {l:List ai}{k:Nat}(h:l.all (fun x=>decide (kv x≤k))=true):iG l≤k:=by
 induction l with
 |nil=>simp [iG]
 |cons x l b7=>
  simp only[bd3,bb6,decide_eq_true_eq]at h
  simp only[iG]
  have:=b7 h.2
  omega
theorem Px {s:bw}(h:lK s=true):s.length≤50:=by
 simp only[lK,bb6,decide_eq_true_eq]at h
 exact h.1
theorem ZR {h:bS}(bo:lR h=true) (aS:ai.ch h.body≤10000):(jg h).length≤3000000:=by
 obtain⟨g1,g2⟩:=EE bo
 simp only[lR,bb6]at bo
 obtain⟨br,bB,_,cu,_,eO⟩:=bo
 have U:=Px br
 have aa:=s9 bB
 have aD:=NL [44,32] 16 h.ps fun x ab=>s9 (List.all_eq_true.1 cu x ab)
 have vm:(16+([44,32]:bw).length)*h.ps.length≤18*4:=bm7 18 g2
 have bA:=(PG 10000).2 h.body 2 aS g1 (by have:=Ye eO; omega)
 simp only[jg,sN,bd0,be3,bb7,bb9,bc4]at*
 omega
theorem at3 {o:cn}(bo:mn o=true) (aS:au.ch o.args≤10000∧au.ch o.eb≤10000):(jQ o).length≤5000000:=by
 obtain⟨g1,g2,g3⟩:=EF bo
 simp only[mn,bb6,decide_eq_true_eq]at bo
 obtain⟨br,bB,cu,_⟩:=bo
 have U:=Px br
 have aa:=s9 bB
 have aD:=NL [44,32] 900000 (o.args.map cy) fun x ab=>by
  obtain⟨y,a8,rfl⟩:=List.mem_map.1 ab
  have:=G0 (List.all_eq_true.1 g1 y a8)
  have:=au.p3 a8
  omega
 have vm:(900000+([44,32]:bw).length)*(o.args.map cy).length≤900002*4:=bm7 900002 (by rw[bb5]; exact cu)
 have bA:(r9 o.eb).length≤900010:=by
  cases hw:o.eb with
  |nil=>simp [r9]
  |cons w ws=>
   rw[hw]at g2 aS
   simp only[bd3,bb6]at g2
   simp only[au.ch]at aS
   have:=G0 g2.1
   simp only[r9,bb7,bb9,bc4]
   omega
 simp only[jQ,sN,bd0,be3,bb7,bb9,bc4]at*
 omega
theorem Tu {v:bJ}(bo:k6 v=true):(kl v).length≤1000:=by
 obtain⟨g1,g2,g3,g4,g5,g6⟩:=EH bo
 have U:=vE g1 g2
 have aa:=vE g3 g4
 have aD:v.name.length≤16:=by
  simp only[k6,bb6]at bo
  exact s9 bo.1
 have bA:(ua v.dG v.n v.s).length≤100:=by
  unfold ua
  split
  ·have:=P0 v.s; omega
  ·have:=vE (g5 ‹_›).1 (g5 ‹_›).2; omega
 have b6:(if v.fB=2 then ([116,101,120,116,32]:bw) else[105,110,116,32]).length≤5:=by split<;>simp
 simp only[kl,sN,bd0,be3,bb7,bb9,bc4]at*
 omega
def sT (x:cQ):Bool:=ev x.name&&(ev x.bO&&(ev x.fM&&(decide (x.vars.length≤12)&&(decide (x.ao.length≤40)&&decide (x.os.length≤40)))))
def pL (x:cQ):Bool:=x.vars.all k6&&(x.ao.all lR&&x.os.all mn)
def n0 (x:cQ):Bool:=sT x&&(pL x&&decide ((nQ x).length≤8000))
structure oX (x:cQ):Prop where
 aS: ∀h∈x.ao,ai.ch h.body≤10000
 hp: ∀h∈x.ao,h.ps.length≤1000000
 qT: ∀o∈x.os,au.ch o.args≤10000∧au.ch o.eb≤10000
 lZ:x.vars.length≤1000000
 lY:x.ao.length≤1000000
 no:x.os.length≤1000000
theorem S0 {x:cQ}(hb:oX x) (U:sT x=true) (aa:pL x=true):De x:=by
 simp only[sT,bb6,decide_eq_true_eq]at U
 simp only[pL,bb6]at aa
 obtain⟨br,bB,cu,eO,hs,pe⟩:=U
 obtain⟨g1,g2,g3⟩:=aa
 refine⟨g1,g2,g3,fun h hm=>by have:=hb.aS h hm; omega,fun o hm=>by have:=hb.qT o hm; omega,hb.lZ,hb.lY,hb.no,?_⟩
 have ap:=s9 br
 have ay:=s9 bB
 have b1:=s9 cu
 have dC:=Bv kl 1000 x.vars fun v ad=>Tu (List.all_eq_true.1 g1 v ad)
 have gF:=Bv jg 3000000 x.ao fun v ad=>ZR (List.all_eq_true.1 g2 v ad) (hb.aS v ad)
 have nW:=Bv jQ 5000000 x.os fun v ad=>at3 (List.all_eq_true.1 g3 v ad) (hb.qT v ad)
 simp only[nQ,sN,bd0,be3,bb7,bb9,bc4]
 omega
end Go.ba
namespace Go.ba.T.N
open Go Go.ba Go.Proofs Go.RowKit
set_option maxRecDepth 100000
attribute [local irreducible] Go.ba.ar Go.ba.al Go.ba.bg
section
attribute [local go_sem] au.cO au.cx au.dd ai.cO ai.cx ai.dd cf dn fo gv dF of_flat bJ.row dW fX
theorem aA8 (x:cQ) (hb:oX x):Pure bb4 40 [x.eL] (.bool (n0 x)):=by
 have Bm:=po x.name
 have Yw:=po x.bO
 have Yv:=po x.fM
 have Fi:=hb.lZ
 have Ff:=hb.lY
 have Fh:=hb.no
 have Yr:=aC8 am5 k6 x.vars (by omega) fun v _=>aC9 v
 have Ys:=aD0 am6 lR x.ao (by omega) fun v ad=>aD1 v (by have:=hb.aS v ad; omega) (by have:=hb.hp v ad; omega)
 have Yt:=aD2 am7 mn x.os (by omega) fun v ad=>aD3 v (by have:=hb.qT v ad; omega)
 have Bj:sT x=true→pL x=true→Pure bb4 116 [x.eL] (.str (nQ x)):=fun U aa=>aD4 x (S0 hb U aa)
 rw[oa]at Bj ⊢
 have jO:((x.vars.map bJ.row).length:Int)=(x.vars.length:Int):=by rw[bb5]
 have ko:((x.ao.map bS.row).length:Int)=(x.ao.length:Int):=by rw[bb5]
 have oh:((x.os.map cn.row).length:Int)=(x.os.length:Int):=by rw[bb5]
 simp only[n0,sT,pL]at Bj ⊢
 generalize ev x.name=AS at*
 generalize ev x.bO=Uw at*
 generalize ev x.fM=Uv at*
 generalize x.vars.all k6=Ux at*
 generalize x.ao.all lR=Dm at*
 generalize x.os.all mn=aB at*
 generalize nQ x=C at*
 generalize x.vars.length=lZ at*
 generalize x.ao.length=lY at*
 generalize x.os.length=no at*
 refine cw be Tryz.func40 W0 (by simp only[b2,I.flat,dW,dF,of_flat,bc0]) rfl ?_
 unfold LU R6
 simp(disch:=omega)only[go_sem,simprocAttr]
 refine ak ?_
 refine D.P (Bm) ?_
 cases AS
 ·refine ak ?_
  exact D.rx
 refine ak ?_
 refine D.P (Yw) ?_
 cases Uw
 ·refine ak ?_
  exact D.rx
 refine ak ?_
 refine D.P (Yv) ?_
 cases Uv
 ·refine ak ?_
  exact D.rx
 by_cases U:lZ≤12
 rotate_left
 ·have d1:(12:Int)<(lZ:Int):=by omega
  (have ae:=jO;have z2:=d1;refine dQ ?_;clear ae z2)
  refine D.r ?_
  refine⟨_,rfl,.aF ?_ rfl,trivial,trivial⟩
  simp [I.aF,U]
 have d1: ¬(12:Int)<(lZ:Int):=by omega
 by_cases aa:lY≤40
 rotate_left
 ·have d2:(40:Int)<(lY:Int):=by omega
  (have ae:=jO;have z2:=d1;have z3:=And.intro ko d2;refine ep ?_;clear ae z2 z3)
  refine D.r ?_
  refine⟨_,rfl,.aF ?_ rfl,trivial,trivial⟩
  simp [I.aF,aa]
 have d2: ¬(40:Int)<(lY:Int):=by omega
 by_cases aD:no≤40
 rotate_left
 ·have d3:(40:Int)<(no:Int):=by omega
  (have ae:=jO;have z2:=d1;have z3:=And.intro ko (And.intro d2 (And.intro oh d3));refine ep ?_;clear ae z2 z3)
  refine D.r ?_
  refine⟨_,rfl,.aF ?_ rfl,trivial,trivial⟩
  simp [I.aF,aD]
 have d3: ¬(40:Int)<(no:Int):=by omega
 simp only[decide_eq_true U,decide_eq_true aa,decide_eq_true aD,bc7,be0]at Bj ⊢
 (have ae:=jO;have z2:=d1;have z3:=And.intro ko (And.intro d2 (And.intro oh d3));refine ep ?_;clear ae z2 z3)
 refine D.P (Yr) ?_
 cases Ux
 ·refine ak ?_
  exact D.rx
 refine ak ?_
 refine D.P (Ys) ?_
 cases Dm
 ·refine ak ?_
  exact D.rx
 refine ak ?_
 refine D.P (Yt) ?_
 cases aB
 ·refine ak ?_
  exact D.rx
 refine ak ?_
 refine D.P (Bj (by first|trivial|rfl) (by first|trivial|rfl)) ?_
 refine ak ?_
 refine D.r ?_
 refine⟨_,rfl,.aF ?_ rfl,trivial,trivial⟩
 simp only[I.aF,I.bool.injEq,bc7]
 exact decide_eq_decide.2 (by omega)
end
section
attribute [local go_sem] au.cO ai.cO au.cx ai.cx
theorem Cr {R:Nat}(ag:R≤140737488355328): ∀(N:Nat) (l:List au),au.ch l≤N→l.length*88≤140737488355328→au.mW R l→Pure bb4 119 [.aq 6 (l.map au.row)] (.int .i64 (au.iQ l (l.length:Int)))
 |N,l,cP,ec,av=>by
  refine cw be Tryz.func119 Va (by simp only[b2,I.flat,au.cx,bc0]) rfl ?_
  unfold Kb Qg
  simp(disch:=omega)only[go_sem,simprocAttr]
  (repeat' first|(apply al.s rfl;(·simp(disch:=omega)only[go_sem,simprocAttr,bb5]<;>with_reducible rfl))|(apply ar.s true true;(·simp(disch:=omega)only[go_sem,simprocAttr,bb5]<;>with_reducible rfl))|apply al.nil|(refine ar.c9 ?_)|(apply al.ft;(·simp(disch:=omega)only[go_sem,simprocAttr,bb5]<;>with_reducible rfl))|(apply al.fu;(·rfl);(·simp(disch:=omega)only[go_sem,simprocAttr,bb5]<;>with_reducible rfl))|(apply al.gs;(·simp(disch:=omega)only[go_sem,simprocAttr,bb5]<;>with_reducible rfl))|((first|apply al.fw|apply al.fx|apply al.fy);(·simp(disch:=omega)only[go_sem,simprocAttr,bb5]<;>with_reducible rfl);(·simp(disch:=omega)only[go_sem,simprocAttr,bb5]<;>with_reducible rfl);(·assumption);(·omega))|intro h)
  refine ar.cU (X:=Nat×Int) (0,(l.length:Int)) (fun x=>[(0,.aq 6 (l.map au.row)),(3,.int .i64 x.2),(4,.int .i64 (x.1:Int))]) (fun _=>[]) (fun _=>[]) (fun x=>x.1≤l.length∧au.iQ (l.drop x.1) x.2=au.iQ l (l.length:Int)) (fun x=>l.length-x.1) ⟨bc3 _,rfl⟩ ⟨rfl,rfl,rfl,trivial⟩ trivial trivial ?_
  rintro⟨i,z⟩ ⟨af,aw⟩
  try simp only at af aw ⊢
  cases ad:l[i]? with
  |some v=>
   have cz:=(List.getElem?_eq_some_iff.1 ad).1
   have hm:=au.lI ad
   have mQ:=au.vT av ad
   obtain⟨k,o,m,t,n,a⟩:=v
   have d1:(i:Int)<((l.map au.row).length:Int):=by rw[bb5]; omega
   match N,cP with
   |0,cP=>simp only[au.cv]at hm; omega
   |N+1,cP=>
   simp only[au.cv]at hm
   (have ae:=d1;refine bt ?_;clear ae)
   refine D.P (Cr ag N a (by omega) (bg1 mQ.2.2.2.2.2.1 ag) mQ.2.2.2.2.2.2) ?_
   refine ak ?_
   refine ar.eC (i+1,_) ⟨by omega,?_⟩ ⟨rfl,rfl,rfl,trivial⟩ trivial trivial rfl rfl (by show l.length-(i+1)<l.length-i; omega)
   rw[eN ad]at aw
   simp only[au.iQ,au.am]at aw
   exact aw
  |none=>
   have b4:=List.getElem?_eq_none_iff.1 ad
   have e:i=l.length:=by omega
   subst e
   have d1: ¬(l.length:Int)<((l.map au.row).length:Int):=by rw[bb5]; omega
   rw[be6]at aw
   simp only[au.iQ]at aw
   subst aw
   (have ae:=d1;refine bt ?_;clear ae)
   exact D.rx
theorem Gp {R:Nat}(ag:R≤140737488355328): ∀(N:Nat) (l:List ai),ai.ch l≤N→l.length*168≤R→ai.mW R l→Pure bb4 118 [.aq 11 (l.map ai.row)] (.int .i64 (ai.iQ l (l.length:Int)))
 |N,l,cP,ec,av=>by
  refine cw be Tryz.func118 U9 (by simp only[b2,I.flat,ai.cx,bc0]) rfl ?_
  unfold Ka Qf
  simp(disch:=omega)only[go_sem,simprocAttr]
  (repeat' first|(apply al.s rfl;(·simp(disch:=omega)only[go_sem,simprocAttr,bb5]<;>with_reducible rfl))|(apply ar.s true true;(·simp(disch:=omega)only[go_sem,simprocAttr,bb5]<;>with_reducible rfl))|apply al.nil|(refine ar.c9 ?_)|(apply al.ft;(·simp(disch:=omega)only[go_sem,simprocAttr,bb5]<;>with_reducible rfl))|(apply al.fu;(·rfl);(·simp(disch:=omega)only[go_sem,simprocAttr,bb5]<;>with_reducible rfl))|(apply al.gs;(·simp(disch:=omega)only[go_sem,simprocAttr,bb5]<;>with_reducible rfl))|((first|apply al.fw|apply al.fx|apply al.fy);(·simp(disch:=omega)only[go_sem,simprocAttr,bb5]<;>with_reducible rfl);(·simp(disch:=omega)only[go_sem,simprocAttr,bb5]<;>with_reducible rfl);(·assumption);(·omega))|intro h)
  refine ar.cU (X:=Nat×Int) (0,(l.length:Int)) (fun x=>[(0,.aq 11 (l.map ai.row)),(3,.int .i64 x.2),(4,.int .i64 (x.1:Int))]) (fun _=>[]) (fun _=>[]) (fun x=>x.1≤l.length∧ai.iQ (l.drop x.1) x.2=ai.iQ l (l.length:Int)) (fun x=>l.length-x.1) ⟨bc3 _,rfl⟩ ⟨rfl,rfl,rfl,trivial⟩ trivial trivial ?_
  rintro⟨i,z⟩ ⟨af,aw⟩
  try simp only at af aw ⊢
  cases ad:l[i]? with
  |some v=>
   have cz:=(List.getElem?_eq_some_iff.1 ad).1
   have hm:=ai.lI ad
   have mQ:=ai.vT av ad
   obtain⟨k,m,x,t,a,b⟩:=v
   have ap:Pure bb4 119 [.aq 6 [x.row]] (.int .i64 (IntKind.i64.wrap (1+x.am))):=Cr ag x.cv [x] (by simp [au.ch]) (by show 1*88≤ _; decide) ⟨mQ.2.2.1,trivial⟩
   obtain⟨bB,fT,m2,t2,p4,fR⟩:=x
   have d1:(i:Int)<((l.map ai.row).length:Int):=by rw[bb5]; omega
   match N,cP with
   |0,cP=>simp only[ai.cv]at hm; omega
   |N+1,cP=>
   simp only[ai.cv]at hm
   simp(disch:=omega)only[go_sem,simprocAttr]at ap
   have ay:=Gp ag N a (by omega) mQ.2.2.2.2.1 mQ.2.2.2.2.2.2.1
   have b1:=Gp ag N b (by omega) mQ.2.2.2.2.2.1 mQ.2.2.2.2.2.2.2
   (have ae:=d1;refine wz ?_;clear ae)
   refine ar.block ?_
   refine ar.gC (anns:=[.int .i64 (IntKind.i64.wrap (1+(au.mk bB fT m2 t2 p4 fR).am)),.int .i64 (ai.iQ a (a.length:Int)),.int .i64 (ai.iQ b (b.length:Int))]) ?_
   refine b0 ?_
   refine D.ei ap ?_
   refine b0 ?_
   refine D.ei ay ?_
   refine b0 ?_
   refine D.ei b1 ?_
   refine ak ?_
   refine ar.eC (i+1,_) ⟨by omega,?_⟩ ⟨rfl,rfl,rfl,trivial⟩ trivial trivial rfl rfl (by show l.length-(i+1)<l.length-i; omega)
   rw[eN ad]at aw
   simp only[ai.iQ,ai.am]at aw
   exact aw
  |none=>
   have b4:=List.getElem?_eq_none_iff.1 ad
   have e:i=l.length:=by omega
   subst e
   have d1: ¬(l.length:Int)<((l.map ai.row).length:Int):=by rw[bb5]; omega
   rw[be6]at aw
   simp only[ai.iQ]at aw
   subst aw
   (have ae:=d1;refine bt ?_;clear ae)
   exact D.rx
theorem Cs {R:Nat}(ag:R≤140737488355328): ∀(N:Nat) (l:List au),au.ch l≤N→l.length*88≤140737488355328→au.mW R l→Pure bb4 65 [.aq 6 (l.map au.row)] (.aq 6 (l.map au.row))
 |N,l,cP,ec,av=>by
  refine cw be Tryz.func65 W6 (by simp only[b2,I.flat,au.cx,bc0]) (by simp only[b2,I.flat,au.cx,bc0]) ?_
  unfold LZ Sa
  simp(disch:=omega)only[go_sem,simprocAttr]
  refine ar.seq ?_
  refine ar.c9 ?_
  refine b0 ?_
  refine ar.seq ?_
  refine ar.c9 ?_
  refine b0 ?_
  refine ar.tK 3 6 80 rfl (by decide) ?_
  simp(disch:=omega)only[go_sem,simprocAttr]
  refine ak ?_
  refine ar.cU (X:=Nat) 0 (fun i=>[(0,.aq 6 (l.map au.row)),(3,.own 0 6 ((l.take i).map au.row)),(4,.int .i64 (i:Int))]) (fun _=>[]) (fun i=>[(0,.bY 80 6 ((l.take i).map au.row).length)]) (fun i=>i≤l.length) (fun i=>l.length-i) (bc3 _) ⟨rfl,rfl,rfl,trivial⟩ trivial ⟨rfl,trivial⟩ ?_
  intro i af
  try simp only at af ⊢
  cases ad:l[i]? with
  |some v=>
   have cz:=(List.getElem?_eq_some_iff.1 ad).1
   have hm:=au.lI ad
   have mQ:=au.vT av ad
   have gm:=z6 au.row ad
   have hlen:(l.take i).length=i:=by simp; omega
   obtain⟨k,o,m,t,n,a⟩:=v
   simp only[au.cO]at gm
   have d1:(i:Int)<((l.map au.row).length:Int):=by rw[bb5]; omega
   match N,cP with
   |0,cP=>simp only[au.cv]at hm; omega
   |N+1,cP=>
   simp only[au.cv]at hm
   have ap:=Cs ag N a (by omega) (bg1 mQ.2.2.2.2.2.1 ag) mQ.2.2.2.2.2.2
   (have ae:=d1;refine wz ?_;clear ae)
   refine ar.block ?_
   refine ar.seq ?_
   refine ar.c9 ?_
   refine b0 ?_
   refine ar.gC (anns:=[.aq 6 (a.map au.row)]) ?_
   refine b0 ?_
   refine D.ei ap ?_
   refine b0 ?_
   refine D.iE ?_
   refine ak ?_
   refine ar.jS (i+1) (by omega) ⟨rfl,by simp only[gm]; rfl,rfl,trivial⟩ trivial ⟨by simp only[gm,bb7]; rfl,trivial⟩ rfl (by simp only[im,dw,eA,eB,ia,I.du,bM.bY,go_sem]<;>rfl) (by show l.length-(i+1)<l.length-i; omega)
  |none=>
   have b4:=List.getElem?_eq_none_iff.1 ad
   have e:i=l.length:=by omega
   subst e
   have d1: ¬(l.length:Int)<((l.map au.row).length:Int):=by rw[bb5]; omega
   simp only[bf1]
   (have ae:=d1;refine bt ?_;clear ae)
   refine D.r ?_
   exact⟨_,rfl,.aF rfl (by simp only[I.flat,au.cx]),trivial,trivial⟩
theorem Gq {R:Nat}(ag:R≤140737488355328): ∀(N:Nat) (l:List ai),ai.ch l≤N→l.length*168≤140737488355328→ai.mW R l→Pure bb4 64 [.aq 11 (l.map ai.row)] (.aq 11 (l.map ai.row))
 |N,l,cP,ec,av=>by
  refine cw be Tryz.func64 W5 (by simp only[b2,I.flat,ai.cx,bc0]) (by simp only[b2,I.flat,ai.cx,bc0]) ?_
  unfold LY R9
  simp(disch:=omega)only[go_sem,simprocAttr]
  refine ar.seq ?_
  refine ar.c9 ?_
  refine b0 ?_
  refine ar.seq ?_
  refine ar.c9 ?_
  refine b0 ?_
  refine ar.tK 3 11 82 rfl (by decide) ?_
  simp(disch:=omega)only[go_sem,simprocAttr]
  refine ak ?_
  refine ar.cU (X:=Nat) 0 (fun i=>[(0,.aq 11 (l.map ai.row)),(3,.own 0 11 ((l.take i).map ai.row)),(4,.int .i64 (i:Int))]) (fun _=>[]) (fun i=>[(0,.bY 82 11 ((l.take i).map ai.row).length)]) (fun i=>i≤l.length) (fun i=>l.length-i) (bc3 _) ⟨rfl,rfl,rfl,trivial⟩ trivial ⟨rfl,trivial⟩ ?_
  intro i af
  try simp only at af ⊢
  cases ad:l[i]? with
  |some v=>
   have cz:=(List.getElem?_eq_some_iff.1 ad).1
   have hm:=ai.lI ad
   have mQ:=ai.vT av ad
   have gm:=z6 ai.row ad
   have hlen:(l.take i).length=i:=by simp; omega
   obtain⟨k,m,x,t,a,b⟩:=v
   have bN:Pure bb4 65 [.aq 6 [x.row]] (.aq 6 [x.row]):=Cs ag x.cv [x] (by simp [au.ch]) (by show 1*88≤ _; decide) ⟨mQ.2.2.1,trivial⟩
   obtain⟨bB,fT,m2,t2,p4,fR⟩:=x
   simp only[ai.cO,au.cO,bd2,bd6]at gm
   simp(disch:=omega)only[go_sem,simprocAttr]at bN
   have d1:(i:Int)<((l.map ai.row).length:Int):=by rw[bb5]; omega
   match N,cP with
   |0,cP=>simp only[ai.cv]at hm; omega
   |N+1,cP=>
   simp only[ai.cv]at hm
   have ap:=Gq ag N a (by omega) (bg1 mQ.2.2.2.2.1 ag) mQ.2.2.2.2.2.2.1
   have ay:=Gq ag N b (by omega) (bg1 mQ.2.2.2.2.2.1 ag) mQ.2.2.2.2.2.2.2
   (have ae:=d1;refine wz ?_;clear ae)
   refine ar.block ?_
   refine ar.seq ?_
   refine ar.c9 ?_
   refine b0 ?_
   refine ar.gC (anns:=[.aq 6 [[.int .i64 bB,.str fT,.str m2,.str t2,.int .i64 p4,.aq 6 (fR.map au.row)]],.aq 11 (a.map ai.row),.aq 11 (b.map ai.row)]) ?_
   refine b0 ?_
   refine D.ei bN ?_
   refine b0 ?_
   refine D.ei ap ?_
   refine b0 ?_
   refine D.ei ay ?_
   refine b0 ?_
   refine D.iE ?_
   refine ak ?_
   refine ar.jS (i+1) (by omega) ⟨rfl,by simp only[gm]; rfl,rfl,trivial⟩ trivial ⟨by simp only[gm,bb7]; rfl,trivial⟩ rfl (by simp only[im,dw,eA,eB,ia,I.du,bM.bY,go_sem]<;>rfl) (by show l.length-(i+1)<l.length-i; omega)
  |none=>
   have b4:=List.getElem?_eq_none_iff.1 ad
   have e:i=l.length:=by omega
   subst e
   have d1: ¬(l.length:Int)<((l.map ai.row).length:Int):=by rw[bb5]; omega
   simp only[bf1]
   (have ae:=d1;refine bt ?_;clear ae)
   refine D.r ?_
   exact⟨_,rfl,.aF rfl (by simp only[I.flat,ai.cx]),trivial,trivial⟩
end
section
attribute [local go_sem] au.cO ai.cO au.cx ai.cx cf dn fo gv dF of_flat
attribute [local go_sem] bJ.row dW fX io
set_option maxHeartbeats 1000000 in
theorem aB7 {R:Nat}(ag:R≤140737488355328) (x:cQ) (ab:x.ok R):Pure bb4 44 [x.eL] (.bool (pU x)):=by
 have fR:=N0 ag (by decide) ab.lY
 have pg:=N0 ag (by decide) ab.no
 replace fR:x.ao.length≤9223372036854775807:=by unfold maxLen at fR; omega
 replace pg:x.os.length≤9223372036854775807:=by unfold maxLen at pg; omega
 rw[oa]
 refine cw be Tryz.func44 W2 (by simp only[b2,I.flat,dW,dF,of_flat,bc0]) rfl ?_
 unfold LW R7
 simp(disch:=omega)only[go_sem,simprocAttr]
 refine ak ?_
 refine ar.cU (X:=Nat×Int) (0,0) (fun p=>[(1,.ptr 0 0),(3,.int .i64 p.2),(4,.int .i64 (p.1:Int))]) (fun _=>[(0,26,x.cells)]) (fun _=>[]) (fun p=>p.1≤x.ao.length∧qB (x.ao.drop p.1) p.2=qB x.ao 0) (fun p=>x.ao.length-p.1) ⟨bc3 _,rfl⟩ ⟨rfl,rfl,rfl,trivial⟩ ⟨rfl,trivial⟩ trivial ?_
 rintro⟨i,z⟩ ⟨af,aw⟩
 try simp only at af aw ⊢
 cases ad:x.ao[i]? with
 |some v=>
  have cz:=(List.getElem?_eq_some_iff.1 ad).1
  have ir:=ab.ao v (bc2 ad)
  have d1:(i:Int)<((x.ao.map bS.row).length:Int):=by rw[bb5]; omega
  have ap:=Gp ag (ai.ch v.body) v.body (bc1 _) ir.2.2.2.2.1 ir.2.2.2.2.2
  rw[eN ad]at aw
  simp only[qB]at aw
  have rP:((v.ps.map cf).length:Int)=(v.ps.length:Int):=by rw[bb5]
  (repeat' first|(apply al.s rfl;(·simp(disch:=omega)only[go_sem,simprocAttr,d1,rP]<;>with_reducible rfl))|(apply ar.s true true;(·simp(disch:=omega)only[go_sem,simprocAttr,d1,rP]<;>with_reducible rfl))|apply al.nil|(refine ar.c9 ?_)|(apply al.ft;(·simp(disch:=omega)only[go_sem,simprocAttr,d1,rP]<;>with_reducible rfl))|(apply al.fu;(·rfl);(·simp(disch:=omega)only[go_sem,simprocAttr,d1,rP]<;>with_reducible rfl))|(apply al.gs;(·simp(disch:=omega)only[go_sem,simprocAttr,d1,rP]<;>with_reducible rfl))|((first|apply al.fw|apply al.fx|apply al.fy);(·simp(disch:=omega)only[go_sem,simprocAttr,d1,rP]<;>with_reducible rfl);(·simp(disch:=omega)only[go_sem,simprocAttr,d1,rP]<;>with_reducible rfl);(·assumption);(·omega))|intro h|(apply ar.cond;(·simp(disch:=omega)only[go_sem,simprocAttr,d1,rP]<;>with_reducible rfl)))
  ·simp only[decide_eq_true_eq]at h
   rw[if_pos (by omega)]at aw
   refine D.r ?_
   refine⟨_,rfl,.aF ?_ rfl,trivial,trivial⟩
   simp only[pU,←aw,I.aF]
  ·simp only[decide_eq_false_iff_not]at h
   rw[if_neg (by omega)]at aw
   refine D.P (ap) ?_
   refine ak ?_
   refine ar.eC (i+1,_) ⟨by omega,aw⟩ ⟨rfl,rfl,rfl,trivial⟩ ⟨rfl,trivial⟩ trivial rfl rfl (by show x.ao.length-(i+1)<x.ao.length-i; omega)
 |none=>
 have b4:=List.getElem?_eq_none_iff.1 ad
 have bN:i=x.ao.length:=by omega
 subst bN
 have d1: ¬(x.ao.length:Int)<((x.ao.map bS.row).length:Int):=by rw[bb5]; omega
 rw[be6]at aw
 simp only[qB]at aw
 have w9:pU x=(decide (rC x.os z≤500)&&(decide (x.vars.length≤60)&&(decide (x.ao.length≤60)&&decide (x.os.length≤60)))):=by simp only[pU,←aw]
 rw[w9]
 clear af ad b4 aw w9
 (have ae:=d1;refine bt ?_;clear ae)
 refine ar.cU (X:=Nat×Int) (0,z) (fun p=>[(1,.ptr 0 0),(3,.int .i64 p.2),(5,.int .i64 (p.1:Int))]) (fun _=>[(0,26,x.cells)]) (fun _=>[]) (fun p=>p.1≤x.os.length∧rC (x.os.drop p.1) p.2=rC x.os z) (fun p=>x.os.length-p.1) ⟨bc3 _,rfl⟩ ⟨rfl,rfl,rfl,trivial⟩ ⟨rfl,trivial⟩ trivial ?_
 rintro⟨i,y⟩ ⟨af,aw⟩
 try simp only at af aw ⊢
 cases ad:x.os[i]? with
 |some v=>
  have cz:=(List.getElem?_eq_some_iff.1 ad).1
  have ir:=ab.os v (bc2 ad)
  have d1:(i:Int)<((x.os.map cn.row).length:Int):=by rw[bb5]; omega
  have ap:=Cr ag (au.ch v.args) v.args (bc1 _) (bg1 ir.2.2.1 ag) ir.2.2.2.1
  have ay:=Cr ag (au.ch v.eb) v.eb (bc1 _) (bg1 ir.2.2.2.2.1 ag) ir.2.2.2.2.2
  rw[eN ad]at aw
  simp only[rC]at aw
  (have ae:=d1;refine wz ?_;clear ae)
  refine ar.block ?_
  refine ar.gC (anns:=[.int .i64 (au.iQ v.args (v.args.length:Int)),.int .i64 (au.iQ v.eb (v.eb.length:Int))]) ?_
  refine b0 ?_
  refine D.ei ap ?_
  refine b0 ?_
  refine D.ei ay ?_
  refine ak ?_
  refine ar.eC (i+1,_) ⟨by omega,aw⟩ ⟨rfl,rfl,rfl,trivial⟩ ⟨rfl,trivial⟩ trivial rfl rfl (by show x.os.length-(i+1)<x.os.length-i; omega)
 |none=>
 have b4:=List.getElem?_eq_none_iff.1 ad
 have bN:i=x.os.length:=by omega
 subst bN
 have d1: ¬(x.os.length:Int)<((x.os.map cn.row).length:Int):=by rw[bb5]; omega
 rw[be6]at aw
 simp only[rC]at aw
 subst aw
 (repeat' first|(apply al.s rfl;(·simp(disch:=omega)only[go_sem,simprocAttr,d1]<;>with_reducible rfl))|(apply ar.s true true;(·simp(disch:=omega)only[go_sem,simprocAttr,d1]<;>with_reducible rfl))|apply al.nil|(refine ar.c9 ?_)|(apply al.ft;(·simp(disch:=omega)only[go_sem,simprocAttr,d1]<;>with_reducible rfl))|(apply al.fu;(·rfl);(·simp(disch:=omega)only[go_sem,simprocAttr,d1]<;>with_reducible rfl))|(apply al.gs;(·simp(disch:=omega)only[go_sem,simprocAttr,d1]<;>with_reducible rfl))|((first|apply al.fw|apply al.fx|apply al.fy);(·simp(disch:=omega)only[go_sem,simprocAttr,d1]<;>with_reducible rfl);(·simp(disch:=omega)only[go_sem,simprocAttr,d1]<;>with_reducible rfl);(·assumption);(·omega))|intro h)
 all_goals
  refine D.R ?_
  refine⟨_,rfl,.aF ?_ rfl,trivial,trivial⟩
  have W4: ∀n:Nat,((n:Int)≤60)=(n≤60):=fun n=>propext (by omega)
  simp only[bb5,W4]at*
  simp_all [I.aF]<;>omega
end
section
attribute [local go_sem] au.cO ai.cO au.cx ai.cx cf dn fo gv dF of_flat
attribute [local go_sem] bJ.row dW fX io
abbrev Av:List I:=[.str [],.str [],.str [],.bi,.bi,.bi]
set_option maxHeartbeats 4000000 in
theorem Cq {R:Nat}(ag:R≤140737488355328) (x:cQ) (ab:x.ok R):Pure bb4 21 [x.eL] x.eL:=by
 have aK:=ab.lZ
 have fR:=ab.lY
 have pg:=ab.no
 rw[oa]
 refine cw be Tryz.func21 VT (by simp only[b2,I.flat,dW,dF,of_flat,bc0]) (by simp only[b2,I.flat,dW,dF,of_flat,bc0]) ?_
 unfold u6 QZ
 simp(disch:=omega)only[go_sem,simprocAttr]
 refine ar.seq ?_
 refine ar.c9 ?_
 refine b0 ?_
 refine ar.seq ?_
 refine ar.c9 ?_
 refine b0 ?_
 refine ar.vi 2 3 7 146 rfl rfl (by decide) ?_
 simp(disch:=omega)only[go_sem,simprocAttr]
 refine ar.vi 2 4 4 84 rfl rfl (by decide) ?_
 simp(disch:=omega)only[go_sem,simprocAttr]
 refine ar.vi 2 5 4 148 rfl rfl (by decide) ?_
 simp(disch:=omega)only[go_sem,simprocAttr]
 refine ak ?_
 refine ar.cU (X:=Nat) 0 (fun i=>[(1,.ptr 0 0),(2,.ptr 1 0),(3,.ptr 2 0),(4,.int .i64 (i:Int))]) (fun i=>[(0,26,x.cells),(1,48,Av),(2,48,[.str x.name,.str x.bO,.str x.fM,.own 0 7 ((x.vars.take i).map bJ.row),.own 1 4 (([]:List bS).map bS.row),.own 2 4 (([]:List cn).map cn.row)])]) (fun i=>[(0,.bY 146 7 ((x.vars.take i).map bJ.row).length),(1,.bY 84 4 (([]:List bS).map bS.row).length),(2,.bY 148 4 (([]:List cn).map cn.row).length)]) (fun i=>i≤x.vars.length) (fun i=>x.vars.length-i) (bc3 _) ⟨rfl,rfl,rfl,rfl,trivial⟩ ⟨rfl,rfl,rfl,trivial⟩ ⟨rfl,rfl,rfl,trivial⟩ ?_
 intro i af
 try simp only at af ⊢
 cases ad:x.vars[i]? with
 |some v=>
  have cz:=(List.getElem?_eq_some_iff.1 ad).1
  have hlen:(x.vars.take i).length=i:=by simp; omega
  have gm:=z6 bJ.row ad
  have d1:(i:Int)<((x.vars.map bJ.row).length:Int):=by rw[bb5]; omega
  (have ae:=d1;refine bt ?_;clear ae)
  refine D.iE ?_
  refine ak ?_
  refine ar.eC (i+1) (by omega) ⟨rfl,rfl,rfl,rfl,trivial⟩ (by refine⟨rfl,rfl,?_,trivial⟩; simp only[gm]; rfl) (by refine⟨?_,rfl,rfl,trivial⟩; simp only[gm,bb7]; rfl) rfl rfl (by show x.vars.length-(i+1)<x.vars.length-i; omega)
 |none=>
 have b4:=List.getElem?_eq_none_iff.1 ad
 have e:i=x.vars.length:=by omega
 subst e
 have d1: ¬(x.vars.length:Int)<((x.vars.map bJ.row).length:Int):=by rw[bb5]; omega
 simp only[bf1]
 clear af ad b4
 (have ae:=d1;refine bt ?_;clear ae)
 refine ar.cU (X:=Nat) 0 (fun i=>[(1,.ptr 0 0),(2,.ptr 1 0),(3,.ptr 2 0),(5,.int .i64 (i:Int))]) (fun i=>[(0,26,x.cells),(1,48,Av),(2,48,[.str x.name,.str x.bO,.str x.fM,.own 0 7 (x.vars.map bJ.row),.own 1 4 ((x.ao.take i).map bS.row),.own 2 4 (([]:List cn).map cn.row)])]) (fun i=>[(0,.bY 146 7 (x.vars.map bJ.row).length),(1,.bY 84 4 ((x.ao.take i).map bS.row).length),(2,.bY 148 4 (([]:List cn).map cn.row).length)]) (fun i=>i≤x.ao.length) (fun i=>x.ao.length-i) (bc3 _) ⟨rfl,rfl,rfl,rfl,trivial⟩ ⟨rfl,rfl,rfl,trivial⟩ ⟨rfl,rfl,rfl,trivial⟩ ?_
 intro i af
 try simp only at af ⊢
 cases ad:x.ao[i]? with
 |some v=>
  have cz:=(List.getElem?_eq_some_iff.1 ad).1
  have hlen:(x.ao.take i).length=i:=by simp; omega
  have gm:=z6 bS.row ad
  have d1:(i:Int)<((x.ao.map bS.row).length:Int):=by rw[bb5]; omega
  have ir:=ab.ao v (bc2 ad)
  have ap:=Gq ag (ai.ch v.body) v.body (bc1 _) (bg1 ir.2.2.2.2.1 ag) ir.2.2.2.2.2
  simp only[fo]at gm
  (have ae:=d1;refine wz ?_;clear ae)
  refine ar.block ?_
  refine ar.seq ?_
  refine ar.c9 ?_
  refine b0 ?_
  refine ar.gC (anns:=[.aq 11 (v.body.map ai.row)]) ?_
  refine b0 ?_
  refine D.ei ap ?_
  refine b0 ?_
  refine D.iE ?_
  refine ak ?_
  refine ar.jS (i+1) (by omega) ⟨rfl,rfl,rfl,rfl,trivial⟩ (by refine⟨rfl,rfl,?_,trivial⟩; simp only[gm]; rfl) (by refine⟨rfl,?_,rfl,trivial⟩; simp only[gm,bb7]; rfl) rfl (by simp only[fX,Av,im,dw,eA,eB,ia,I.du,bM.bY,dW,dF,of_flat,go_sem]<;>rfl) (by show x.ao.length-(i+1)<x.ao.length-i; omega)
 |none=>
 have b4:=List.getElem?_eq_none_iff.1 ad
 have e:i=x.ao.length:=by omega
 subst e
 have d1: ¬(x.ao.length:Int)<((x.ao.map bS.row).length:Int):=by rw[bb5]; omega
 simp only[bf1]
 clear af ad b4
 (have ae:=d1;refine bt ?_;clear ae)
 refine ar.cU (X:=Nat) 0 (fun i=>[(1,.ptr 0 0),(2,.ptr 1 0),(3,.ptr 2 0),(7,.int .i64 (i:Int))]) (fun i=>[(0,26,x.cells),(1,48,Av),(2,48,[.str x.name,.str x.bO,.str x.fM,.own 0 7 (x.vars.map bJ.row),.own 1 4 (x.ao.map bS.row),.own 2 4 ((x.os.take i).map cn.row)])]) (fun i=>[(0,.bY 146 7 (x.vars.map bJ.row).length),(1,.bY 84 4 (x.ao.map bS.row).length),(2,.bY 148 4 ((x.os.take i).map cn.row).length)]) (fun i=>i≤x.os.length) (fun i=>x.os.length-i) (bc3 _) ⟨rfl,rfl,rfl,rfl,trivial⟩ ⟨rfl,rfl,rfl,trivial⟩ ⟨rfl,rfl,rfl,trivial⟩ ?_
 intro i af
 try simp only at af ⊢
 cases ad:x.os[i]? with
 |some v=>
  have cz:=(List.getElem?_eq_some_iff.1 ad).1
  have hlen:(x.os.take i).length=i:=by simp; omega
  have gm:=z6 cn.row ad
  have d1:(i:Int)<((x.os.map cn.row).length:Int):=by rw[bb5]; omega
  have ir:=ab.os v (bc2 ad)
  have ap:=Cs ag (au.ch v.args) v.args (bc1 _) (bg1 ir.2.2.1 ag) ir.2.2.2.1
  have ay:=Cs ag (au.ch v.eb) v.eb (bc1 _) (bg1 ir.2.2.2.2.1 ag) ir.2.2.2.2.2
  simp only[gv]at gm
  (have ae:=d1;refine wz ?_;clear ae)
  refine ar.block ?_
  refine ar.seq ?_
  refine ar.c9 ?_
  refine b0 ?_
  refine ar.gC (anns:=[.aq 6 (v.args.map au.row),.aq 6 (v.eb.map au.row)]) ?_
  refine b0 ?_
  refine D.ei ap ?_
  refine b0 ?_
  refine D.ei ay ?_
  refine b0 ?_
  refine D.iE ?_
  refine ak ?_
  refine ar.jS (i+1) (by omega) ⟨rfl,rfl,rfl,rfl,trivial⟩ (by refine⟨rfl,rfl,?_,trivial⟩; simp only[gm]; rfl) (by refine⟨rfl,rfl,?_,trivial⟩; simp only[gm,bb7]; rfl) rfl (by simp only[fX,Av,im,dw,eA,eB,ia,I.du,bM.bY,dW,dF,of_flat,go_sem]<;>rfl) (by show x.os.length-(i+1)<x.os.length-i; omega)
 |none=>
 have b4:=List.getElem?_eq_none_iff.1 ad
 have e:i=x.os.length:=by omega
 subst e
 have d1: ¬(x.os.length:Int)<((x.os.map cn.row).length:Int):=by rw[bb5]; omega
 simp only[bf1]
 clear af ad b4
 (have ae:=d1;refine bt ?_;clear ae)
 refine D.r ?_
 refine⟨_,rfl,?_,trivial,trivial⟩
 exact .aF rfl (by simp only[b2,I.flat,dW,dF,of_flat,bc0])
end
end Go.ba.T.N
namespace Go.ba
open Go Go.ba.T.N
structure Fd where
 name:List UInt8
 kind:Int
 b3:Int
 af:Int
structure cj where
 name:List UInt8
 fields:List Fd
 first:Int
 fa:List (Int×Int×Int)
 eqs:List (Int×Int)
structure df where
 gG:Int
 nq:Int
 pM:Int
 pK:Int
 dst:Int
 again:Bool
structure fc where
 state:Int
 Hc:Int
 tE:Int
structure di where
 name:List UInt8
 dl:List (List UInt8)
 decls:List cj
 jA:Int
 start:Int
 fin:Int
 cD:List df
 jm:List fc
def Fd.row (f:Fd):List I:=[.str f.name,.int .i64 f.kind,.int .i64 f.b3,.int .i64 f.af]
def eX (d:Int×Int×Int):List I:=[.int .i64 d.1,.int .i64 d.2.1,.int .i64 d.2.2]
def fi (d:Int×Int):List I:=[.int .i64 d.1,.int .i64 d.2]
def cj.row (d:cj):List I:=[.str d.name,.aq 4 (d.fields.map Fd.row),.int .i64 d.first,.aq 3 (d.fa.map eX),.aq 2 (d.eqs.map fi)]
def df.row (e:df):List I:=[.int .i64 e.gG,.int .i64 e.nq,.int .i64 e.pM,.int .i64 e.pK,.int .i64 e.dst,.bool e.again]
def fc.row (t:fc):List I:=[.int .i64 t.state,.int .i64 t.Hc,.int .i64 t.tE]
def di.cells (g:di):List I:=[.str g.name,.aq 1 (g.dl.map cf),.aq 5 (g.decls.map cj.row),.int .i64 g.jA,.int .i64 g.start,.int .i64 g.fin,.aq 6 (g.cD.map df.row),.aq 3 (g.jm.map fc.row)]
def di.eL (g:di):I:= .agg g.cells
def zR:List (List UInt8)→List (List UInt8)→Bool
 | _,[]=>true
 |ahead,x::l=>ev x&&(!ahead.contains x&&zR (ahead++[x]) l)
def zA (g:di):Bool:=ev g.name&&(decide (1≤g.dl.length)&&(decide (g.dl.length≤6)&&zR [] g.dl))
def yF (g:di) (e:df):Bool:=
 decide (0≤e.gG)&&(decide (0≤e.dst)&&(decide (0≤e.nq)&&(decide (0≤e.pM)&&(decide (0≤e.pK)&&(decide (e.gG<g.jA)&&(decide (e.dst<g.jA)&&(decide (e.nq<g.dl.length)&&(decide (e.pM<g.dl.length)&&(!decide (e.nq=e.pM)&&decide (e.pK<g.decls.length))))))))))
def uj (g:di):Bool:=
 decide (1≤g.jA)&&(decide (g.jA≤200)&&(decide (0≤g.start)&&(decide (0≤g.fin)&&(decide (g.start<g.jA)&&(decide (g.fin<g.jA)&&(decide (g.cD.length≤400)&&g.cD.all (yF g)))))))
def nI (k b3 af:Int):Bool:=
 if k=1 then decide (-1000≤b3)&&(decide (b3≤af)&&decide (af≤1000))
 else if k=2 then decide (0≤b3)&&(decide (b3≤af)&&decide (af≤40))
 else false
def Bb (n:Nat) (x:Int×Int×Int):Bool:=decide (-1≤min x.1 x.2.1)&&(decide (max x.1 x.2.1<n)&&(decide (-20000≤x.2.2)&&decide (x.2.2≤20000)))
def pz (all:List Fd) (i:Int):Bool:=decide (0≤i)&&(decide (i<all.length)&&match all[i.toNat]? with|some f=>decide (f.kind=2)|none=>false)
def yG (all:List Fd) (x:Int×Int):Bool:=pz all x.1&&pz all x.2
def vl (all:List Fd) (d:cj):Bool:=
 decide (d.fa.length≤20)&&(decide (d.eqs.length≤20)&&(d.fa.all (Bb all.length)&&d.eqs.all (yG all)))
def n8 (f:Nat→df→Bool):Nat→List df→Bool
 | _,[]=>true
 |i,e::l=>f i e&&n8 f (i+1) l
def sS (i:Nat) (x:df) (k:Nat) (y:df):Bool:=
 !((!decide (i=k)&&decide (x.gG=y.gG))&&((decide (x.nq=y.nq)&&(decide (x.pM=y.pM)&&decide (x.pK=y.pK)))||(!decide (x.nq=y.nq)||x.again)))&&
  !(x.again&&(decide (y.dst=x.gG)&&(!decide (x.nq=y.nq)|| !decide (x.pK=y.pK))))
def Ck (g:di) (i:Nat) (x:df):Bool:= !(decide (x.gG=g.fin)||(x.again&&decide (x.gG=g.start)))&&n8 (sS i x) 0 g.cD
def zJ (g:di):Bool:=n8 (Ck g) 0 g.cD
def rD:List Fd→List Fd→Bool
 | _,[]=>true
 |ahead,f::l=>ev f.name&&(nI f.kind f.b3 f.af&&(!ahead.any (fun x=>decide (x.name=f.name))&&rD (ahead++[f]) l))
def oY (l:List cj):List Fd:=l.flatMap cj.fields
def u1 (all:List Fd):List cj→Int→List cj→Bool
 | _,_,[]=>true
 |ahead,at',d::l=>lK d.name&&(decide (d.fields.length≤4)&&(decide (d.first=at')&&(!ahead.any (fun x=>decide (x.name=d.name))&&(rD [] d.fields&&(vl all d&&u1 all (ahead++[d]) (at'+d.fields.length) l)))))
def s7 (l:List cj):Bool:=decide (l.length≤40)&&(decide ((oY l).length≤24)&&u1 (oY l) [] 0 l)
def yz (l:List cj):Bool:=decide (l.length=0)||s7 l
def o2 (first:Int):Nat→List Fd→List (Int×Int×Int)
 | _,[]=>[]
 |i,f::l=>(first+i,-1,f.af)::(-1,first+i,-f.b3)::o2 first (i+1) l
def o1:List (Int×Int)→List (Int×Int×Int)
 |[]=>[]
 |e::l=>(e.1,e.2,0)::(e.2,e.1,0)::o1 l
def IF (d:cj):List (Int×Int×Int):=o2 d.first 0 d.fields++(d.fa++o1 d.eqs)
def z8 (g:di):Int→List fc→Bool
 | _,[]=>true
 |last,t::l=>decide (last<t.state)&&(decide (1≤t.Hc)&&(decide (t.Hc≤1000)&&(decide (0≤t.tE)&&(decide (t.tE<g.cD.length)&&(match g.cD[t.tE.toNat]? with
  |some e=>decide (e.gG=t.state)&& !e.again
  |none=>false)&&z8 g t.state l))))
def z7 (g:di):Bool:=z8 g (-1) g.jm
def pS (back:Bool) (e:df):Int×Int:=if back=true then (e.dst,e.gG) else (e.gG,e.dst)
def r0 (h:Int) (back:Bool):List df→List Int×List Int→List Int×List Int
 |[],s=>s
 |e::es,s=>if (pS back e).1=h∧s.1.getD (pS back e).2.toNat 0<0 then r0 h back es (s.1.set (pS back e).2.toNat (s.1.getD (pS back e).1.toNat 0+1),s.2++[(pS back e).2]) else r0 h back es s
def wb (es:List df) (back:Bool):Nat→List Int→List Int→List Int
 |0,out,_=>out
 | _+1,out,[]=>out
 |n+1,out,h::todo=>wb es back n (r0 h back es (out,h::todo)).1 (r0 h back es (out,h::todo)).2.tail
def q0 (g:di) (gG:Int) (back:Bool):List Int:=wb g.cD back (2*g.jA.toNat+2) ((bc9 g.jA.toNat (-1)).set gG.toNat 0) [gG]
def uH (g:di):Bool:=zA g&&(uj g&&(yz g.decls&&(zJ g&&(z7 g&&(!(q0 g g.start false).contains (-1)&& !(q0 g g.fin true).contains (-1))))))
def pn (l:List Int):Nat:=l.countP (fun x=>decide (x<0))
end Go.ba
namespace Go.ba
open Go Go.ba.T.N
inductive dz (α:Type) where
 |ok (a:α)
 |err (n:List UInt8) (e:Int)
def dz.bind {α β:Type}:dz α→(α→dz β)→dz β
 | .ok a,f=>f a
 | .err n e,_=> .err n e
def fS (b:Bool) (n:List UInt8) (e:Int):dz Unit:=if b=true then .ok () else .err n e
theorem dz.bind_assoc {α β a10:Type}(r:dz α) (f:α→dz β) (g:β→dz a10):(r.bind f).bind g=r.bind fun a=>(f a).bind g:=by cases r<;>rfl
structure ef where
 x:cQ
 g:di
 bO:Int
 ps:Option (List (List UInt8×Int))
def ef.look (aV:ef) (n:List UInt8):Option Int:=match aV.ps with
 |none=>none
 |some m=>mU n m
def Ao:bJ:=⟨[],0,0,0,0,0,[]⟩
def varOf (l:List bJ) (n:List UInt8):Option bJ:=l.find? fun v=>decide (v.name=n)
def pk (aV:ef) (n:List UInt8):dz Int:=match aV.look n with
 |some k=> .ok k
 |none=>match varOf aV.x.vars n with
  |some v=> .ok v.fB
  |none=> .err n 10
def uW (bH:List Int) (k:Int):Bool:=bH.all fun x=>decide (x=k)
def pf (aV:ef) (k:Int) (o m:List UInt8) (bH:List Int):dz Int:=
 if k=2 then .ok 2
 else if k=3 then pk aV m
 else if k=4 then (fS (uW bH 2) [108,101,110] 11).bind fun _=> .ok 1
 else if k=5 then (fS (uW bH 1) o 11).bind fun _=> .ok 1
 else if k=6 then (if o≠[43]∧o≠[61,61]∧o≠[33,61] then (fS (uW bH 1) o 11).bind fun _=> .ok 1
  else (fS (uW bH (bH.headD 0)) o 11).bind fun _=> .ok (if o=[43] then bH.headD 0 else 1))
 else .ok 1
mutual
def kd (aV:ef):au→dz Int
 | .mk k o m t n l=>(lf aV l).bind fun bH=>pf aV k o m bH
def lf (aV:ef):List au→dz (List Int)
 |[]=> .ok []
 |x::l=>(kd aV x).bind fun a=>(lf aV l).bind fun ca=> .ok (a::ca)
end
def qn (aV:ef) (n:List UInt8) (x:au):dz Unit:=
 (fS ((aV.look n).isSome||(varOf aV.x.vars n).isSome) n 10).bind fun _=>(fS (!(aV.look n).isSome) n 11).bind fun _=>(kd aV x).bind fun k=>fS (decide (k=((varOf aV.x.vars n).getD Ao).fB)) n 11
mutual
def qc (aV:ef):ai→dz Unit
 | .mk k m x t a b=>if k=1 then qn aV m x
  else (if k=2 then (kd aV x).bind fun q=>fS (decide (q=1)) [105,102] 11 else if k=3 then (kd aV x).bind fun q=>fS (decide (q=1)) [119,104,105,108,101] 11 else .ok ()).bind fun _=>(j4 aV a).bind fun _=>j4 aV b
def j4 (aV:ef):List ai→dz Unit
 |[]=> .ok ()
 |x::l=>(qc aV x).bind fun _=>j4 aV l
end
def Am (v:bJ):Bool:=if v.dG=1 then decide (-1000≤v.n)&&(decide (v.n≤1000)&&decide (v.s=[])) else if v.dG=2 then decide (v.n=0)&&(decide (v.s.length≤40)&&v.s.all ea) else false
def zC (v:bJ):Int:=if v.dG=1 then v.n else if v.dG=2 then (v.s.length:Int) else 0
def ve (v:bJ):Bool:=nI v.fB v.b3 v.af&&(Am v&&(decide (v.fB=v.dG)&&(decide (v.b3≤zC v)&&decide (zC v≤v.af))))
def nh:List bJ→List bJ→dz Unit
 | _,[]=> .ok ()
 |ahead,v::l=>(fS (!ahead.any fun w=>decide (w.name=v.name)) v.name 9).bind fun _=>(fS (nI v.fB v.b3 v.af&&ve v) v.name 11).bind fun _=>nh (ahead++[v]) l
def ht (l:List (List UInt8)) (s:List UInt8):Int:=rR l s l.length 0
def nV (g:di) (n:List UInt8):Int:=dj (fun d=> !decide (d.name=n)) g.decls 0
def uh (aV:ef) (path peer:List UInt8) (vB:Bool):dz cj:=
 (fS (decide (0≤nV aV.g path)) path 10).bind fun _=>(fS (decide (0≤ht aV.g.dl peer)) peer 12).bind fun _=>
  (fS (aV.g.cD.any fun e=>decide (e.nq=(if vB=true then ht aV.g.dl peer else aV.bO))&&(decide (e.pM=(if vB=true then aV.bO else ht aV.g.dl peer))&&decide (e.pK=nV aV.g path))) path 8).bind fun _=>
   match aV.g.decls[(nV aV.g path).toNat]? with
   |some d=> .ok d
   |none=> .err [] 0
def nF (vars:List bJ):List (List UInt8×Int)→List (List UInt8)→List Fd→dz (List (List UInt8×Int))
 |acc,n::ps,f::cg=>(fS (!(varOf vars n).isSome&& !(mU n acc).isSome) n 9).bind fun _=>nF vars (acc++[(n,f.kind)]) ps cg
 |acc,_,_=> .ok acc
def mo (aV:ef) (ahead:List bS) (h:bS):dz Unit:=
 (uh aV h.da h.peer true).bind fun d=>(fS (!ahead.any fun o=>decide (o.da=h.da)&&decide (o.peer=h.peer)) h.da 9).bind fun _=>
  (fS (decide (h.ps.length=d.fields.length)) h.da 11).bind fun _=>(nF aV.x.vars [] h.ps d.fields).bind fun m=>j4 {aV with ps:=some m} h.body
def lq (aV:ef) (da:List UInt8):List au→List Fd→dz Unit
 |x::l,f::cg=>(kd aV x).bind fun k=>(fS (decide (k=f.kind)) da 11).bind fun _=>lq aV da l cg
 | _,_=> .ok ()
def ni (aV:ef):List au→dz Unit
 |x::l=>(kd aV x).bind fun k=>(fS (decide (k=1)) [119,104,101,114,101] 11).bind fun _=>ni aV l
 |[]=> .ok ()
def n7 (aV:ef) (o:cn):dz Unit:=
 (uh aV o.da o.peer false).bind fun d=>(fS (decide (o.args.length=d.fields.length)) o.da 11).bind fun _=>(lq aV o.da o.args d.fields).bind fun _=>ni aV o.eb
def oE (aV:ef):List bS→List bS→dz Unit
 | _,[]=> .ok ()
 |ahead,h::l=>(mo aV ahead h).bind fun _=>oE aV (ahead++[h]) l
def oK (aV:ef):List cn→dz Unit
 |[]=> .ok ()
 |o::l=>(n7 aV o).bind fun _=>oK aV l
def p6 (x:cQ) (g:di):dz Unit:=
 (fS (decide (x.fM=g.name)) x.fM 10).bind fun _=>(fS (decide (0≤ht g.dl x.bO)) x.bO 12).bind fun _=>
  (nh [] x.vars).bind fun _=>(oE ⟨x,g,max (ht g.dl x.bO) 0,none⟩ [] x.ao).bind fun _=>oK ⟨x,g,max (ht g.dl x.bO) 0,none⟩ x.os
def j9 (x:cQ) (g:di):List UInt8×Int:=
 if (n0 x&&uH g)=true then (match p6 x g with
  | .ok _=>([],0)
  | .err n e=>(n,e)) else ([],1)
end Go.ba
namespace Go.ba
open Go Go.ba.T.N
structure hM where
  op:Int
  n:Int
  s:List UInt8
def hM.row (i:hM):List I:=[.int .i64 i.op,.int .i64 i.n,.str i.s]
structure pD where
  vars:List bJ
  ps:List (List UInt8)
  bH:List Int
def HC (l:List bJ) (n:List UInt8):Int:=dj (fun v=> !decide (v.name=n)) l 0
mutual
def aP5 (dB:pD):au→Bool
  | .mk k o m t n l=>if k=2 then true
    else if k=3 then (if 0≤ht dB.ps m then decide (dB.bH.getD (ht dB.ps m).toNat 0=2) else match dB.vars[(HC dB.vars m).toNat]? with
      |some v=>decide (v.fB=2)
      |none=>false)
    else if k=6 then decide (o=[43])&&S4 dB l
    else false
def S4 (dB:pD):List au→Bool
  |[]=>false
  |x:: _=>aP5 dB x
end
def FY (o:List UInt8):Int×Bool×Bool:=
  if o=[45] then (7,false,false)
  else if o=[42] then (8,false,false)
  else if o=[47] then (9,false,false)
  else if o=[37] then (10,false,false)
  else if o=[38,38] then (15,false,false)
  else if o=[124,124] then (16,false,false)
  else if o=[61,61] then (12,false,false)
  else if o=[33,61] then (12,false,true)
  else if o=[60] then (13,false,false)
  else if o=[62,61] then (13,false,true)
  else if o=[62] then (13,true,false)
  else if o=[60,61] then (13,true,true)
  else (6,false,false)
def ins (op n:Int):hM:=⟨op,n,[]⟩
def UD (o:List UInt8) (aQ7:Bool):List (List hM)→List hM
  |a::b:: _=>(if (FY o).2.1=true then b++a else a++b)++(ins (if o=[43]∧aQ7=true then 17 else (FY o).1) 0::if (FY o).2.2=true then[ins 14 0] else[])
  | _=>[]
mutual
def kV (dB:pD):au→List hM
  | .mk k o m t n l=>if k=1 then[ins 1 n]
    else if k=2 then[⟨2,0,t⟩]
    else if k=3 then[if 0≤ht dB.ps m then ins 4 (ht dB.ps m) else ins 3 (HC dB.vars m)]
    else if k=4 then (yt dB l).headD []++[ins 18 0]
    else if k=5 then (yt dB l).headD []++[ins (if o=[45] then 11 else 14) 0]
    else UD o (S4 dB l) (yt dB l)
def yt (dB:pD):List au→List (List hM)
  |[]=>[]
  |x::l=>kV dB x::yt dB l
end
mutual
def Jn (dB:pD):Nat→ai→List hM
  |p,.mk k m x t a b=>if k=1 then kV dB x++[ins 5 (HC dB.vars m)]
   else if k=2 then (match b with
     |[]=>kV dB x++(ins 20 ((p+(kV dB x).length+1+(o4 dB (p+(kV dB x).length+1) a).length:Nat):Int)::o4 dB (p+(kV dB x).length+1) a)
     | _:: _=>kV dB x++(ins 20 ((p+(kV dB x).length+1+(o4 dB (p+(kV dB x).length+1) a).length+1:Nat):Int)::(o4 dB (p+(kV dB x).length+1) a++
        (ins 19 ((p+(kV dB x).length+1+(o4 dB (p+(kV dB x).length+1) a).length+1+(o4 dB (p+(kV dB x).length+1+(o4 dB (p+(kV dB x).length+1) a).length+1) b).length:Nat):Int)::o4 dB (p+(kV dB x).length+1+(o4 dB (p+(kV dB x).length+1) a).length+1) b))))
   else ins 21 t::(kV dB x++(ins 20 ((p+1+(kV dB x).length+1+(o4 dB (p+1+(kV dB x).length+1) a).length+1:Nat):Int)::(o4 dB (p+1+(kV dB x).length+1) a++[ins 22 ((p+1:Nat):Int),ins 23 0])))
def o4 (dB:pD):Nat→List ai→List hM
  | _,[]=>[]
  |p,x::l=>Jn dB p x++o4 dB (p+(Jn dB p x).length) l
end
mutual
def Yc:Nat→ai→Bool
  |d,.mk k m x t a b=>if k=1 then false else if k=2 then yA d a||yA d b else decide (d=4)||yA (d+1) a
def yA:Nat→List ai→Bool
  | _,[]=>false
  |d,x::l=>Yc d x||yA d l
end
def ZT (x:cQ) (bH:List Int) (p:Nat) (h:bS):List hM:=o4 ⟨x.vars,h.ps,bH⟩ p h.body++[ins 24 0]
def NW (g:di) (da:List UInt8):List Int:=match g.decls[(nV g da).toNat]? with
  |some d=>d.fields.map Fd.kind
  |none=>[]
def ES (x:cQ) (g:di):Nat→List bS→List (Int×Int×Int)×List hM×Bool
  | _,[]=>([],[],false)
  |p,h::l=>let q:=ZT x (NW g h.da) p h; let r:=ES x g (p+q.length) l
   ((ht g.dl h.peer,nV g h.da,(p:Int))::r.1,q++r.2.1,yA 0 h.body||r.2.2)
def aZ3 (dB:pD) (p:Nat):List au→Int×List hM
  |[]=>(-1,[])
  |x:: _=>((p:Int),kV dB x++[ins 24 0])
def Pl (x:cQ) (g:di):Nat→List cn→List (Int×Int×Int×Int)×List hM
  | _,[]=>([],[])
  |p,o::l=>let w:=aZ3 ⟨x.vars,[],[]⟩ p o.eb; let q:=(yt ⟨x.vars,[],[]⟩ o.args).flatten++[ins 24 0]; let r:=Pl x g (p+w.2.length+q.length) l
   ((ht g.dl o.peer,nV g o.da,w.1,((p+w.2.length:Nat):Int))::r.1,w.2++q++r.2)
structure a15 where
  name:List UInt8
  bO:Int
  vars:List bJ
  ao:List (Int×Int×Int)
  os:List (Int×Int×Int×Int)
  code:List hM
def k7 (h:Int×Int×Int):List I:=[.int .i64 h.1,.int .i64 h.2.1,.int .i64 h.2.2]
def vQ (h:Int×Int×Int×Int):List I:=[.int .i64 h.1,.int .i64 h.2.1,.int .i64 h.2.2.1,.int .i64 h.2.2.2]
def XE (x:cQ) (g:di):List hM:=
  let c:=(ES x g 0 x.ao).2.1++(Pl x g (ES x g 0 x.ao).2.1.length x.os).2
  if c.length=0 then[ins 24 0] else c
end Go.ba
namespace Go.ba.T.N
open Go Go.ba Go.Proofs Go.RowKit
set_option maxRecDepth 100000
attribute [local irreducible] Go.ba.ar Go.ba.al Go.ba.bg
section
attribute [local go_sem] bJ.row dW fo dF cf
def dM (n:Int):List I:=[.int .i64 n]
theorem hE (l:List Int):eY (l.map dM)=true:=ml (fun _=>rfl) l
theorem gz (l:List Fd):eY (l.map Fd.row)=true:=ml (fun _=>rfl) l
theorem gy (l:List (Int×Int×Int)):eY (l.map eX)=true:=ml (fun _=>rfl) l
theorem hB (l:List (Int×Int)):eY (l.map fi)=true:=ml (fun _=>rfl) l
theorem fK (l:List df):eY (l.map df.row)=true:=ml (fun _=>rfl) l
theorem fZ (l:List fc):eY (l.map fc.row)=true:=ml (fun _=>rfl) l
theorem e9 (l:List cj):eY (l.map cj.row)=true:=ml (fun d=>by simp only[cj.row,b2,I.flat,gz,gy,hB,bc0]) l
attribute [local go_sem] hE gz gy hB fK fZ e9 dM Fd.row eX fi df.row fc.row cj.row
theorem uq {α:Type}(g:α→Bool) (l:List α):decide (0≤dj (fun v=> !g v) l 0)=l.any g:=by
 rw[uo]
 induction l with
 |nil=>rfl
 |cons x l b7=>
  simp only[bd3,List.any_cons,←b7]
  cases g x<;>simp
section
variable {cY:Program}{anns:List I}{l:List bK}{env:Env}{K:Env→aN→Prop}{Rp:I→aN→Prop}{f:FuncId}{args:List aJ}{x:aJ}{a v:I}{d:Nat}{T:TypeId}{cs:List I}
theorem D.ww (aT:c6 cY f=true) (hb:dw 1 0 cs=true) (ac:e7 ⟨[0],[]⟩ cs=cs) (xj:a.flat=true) (h:bg cY f [a,.ptr 0 0] (aN.of 1 0 [(0,T,cs)] []) (dA v [(0,T,cs)] [])) (av:al cY anns l ((d,v)::env) (aN.of 1 0 [(0,T,cs)] []) K Rp)
  (ab:bl env x= .fn f [.ptr 0 0]:=by simp (disch:=omega) only[go_sem,simprocAttr]<;>with_reducible rfl) (aS:args.map (bl env)=[a]:=by simp (disch:=omega) only[go_sem,simprocAttr]<;>with_reducible rfl) (ad:v.flat=true:=by rfl):al cY anns (⟨some d,none,.gj x args⟩::l) env (aN.of 1 0 [(0,T,cs)] []) K Rp:=by
 have yV:eA 1 0 [(0,T,cs)]=true:=by simp only[eA,hb,be0]; rfl
 have e:=bg.o6 (c:=aN.of 1 0 [(0,T,cs)] []) ⟨[0],[]⟩ h rfl rfl rfl ⟨by simp only[rH,xC,gS,beq_self_eq_true,cond_true,ac],trivial⟩ trivial (by simp only[dw,sx a xj,yV,I.du,eB,be0]; rfl) (by simp only[yV,sx v ad,eB,be0]) rfl
 rw[sy v ad]at e
 have hu:(aN.of 1 0 [(0,T,cs)] []).kk ⟨[0],[]⟩ [(0,T,cs)] []=aN.of 1 0 [(0,T,cs)] []:=by
  rw[mV]
  simp only[p8,p9,rH,ac,bn1,bk7,bg3,bk8,beq_self_eq_true,bk4,if_true,pu,qa,nH,oZ,o0,cond_true]
 rw[hu,show e7 ⟨[0],[]⟩ [a,.ptr 0 0]=[a,.ptr 0 0] by simp only[e7,sy a xj,I.eP,rH]]at e
 exact al.HD rfl ab aT e (by rw[aS]; rfl) av
theorem D.wy {size:Nat}{g:FuncId}{rows:List (List I)}(hb:dw 1 0 cs=true) (ac:e7 ⟨[0],[]⟩ cs=cs) (xj:eY rows=true) (h:bg cY f [.aq size rows,.fn g [.ptr 0 0]] (aN.of 1 0 [(0,T,cs)] []) (dA v [(0,T,cs)] [])) (av:al cY anns l ((d,v)::env) (aN.of 1 0 [(0,T,cs)] []) K Rp)
  (aS:args.map (bl env)=[.aq size rows,.fn g [.ptr 0 0]]:=by simp (disch:=omega) only[go_sem,simprocAttr]<;>with_reducible rfl) (ad:v.flat=true:=by rfl):al cY anns (⟨some d,none,.call f args⟩::l) env (aN.of 1 0 [(0,T,cs)] []) K Rp:=by
 have yV:eA 1 0 [(0,T,cs)]=true:=by simp only[eA,hb,be0]; rfl
 have e:=bg.o6 (c:=aN.of 1 0 [(0,T,cs)] []) ⟨[0],[]⟩ h rfl rfl rfl ⟨by simp only[rH,xC,gS,beq_self_eq_true,cond_true,ac],trivial⟩ trivial (by simp only[dw,yV,I.du,xj,eB,be0]; rfl) (by simp only[yV,sx v ad,eB,be0]) rfl
 rw[sy v ad]at e
 have hu:(aN.of 1 0 [(0,T,cs)] []).kk ⟨[0],[]⟩ [(0,T,cs)] []=aN.of 1 0 [(0,T,cs)] []:=by
  rw[mV]
  simp only[p8,p9,rH,ac,bn1,bk7,bg3,bk8,beq_self_eq_true,bk4,if_true,pu,qa,nH,oZ,o0,cond_true]
 rw[hu,show e7 ⟨[0],[]⟩ [.aq size rows,.fn g [.ptr 0 0]]=[.aq size rows,.fn g [.ptr 0 0]] by simp only[e7,I.eP,rH]]at e
 exact al.st rfl e aS av
end
theorem Tq {f:FuncId}{T:TypeId}{cs:List I}(aT:c6 bb4 f=true) (hb:dw 1 0 cs=true) (ac:e7 ⟨[0],[]⟩ cs=cs) (g:bJ→Bool) (l:List bJ) (aG:l.length≤1000000000000) (h: ∀v∈l,bg bb4 f [.agg (bJ.row v),.ptr 0 0] (aN.of 1 0 [(0,T,cs)] []) (dA (.bool (g v)) [(0,T,cs)] [])):bg bb4 261 [.aq 7 (l.map bJ.row),.fn f [.ptr 0 0]] (aN.of 1 0 [(0,T,cs)] []) (dA (.int .i64 (dj (fun v=> !g v) l 0)) [(0,T,cs)] []):=by
 refine bg.intro be Tryz.func261 IW ?_
 unfold Ee GA
 simp(disch:=omega)only[go_sem,simprocAttr]
 refine ak ?_
 refine ar.cU (X:=Nat) 0 (fun i=>[(0,.aq 7 (l.map bJ.row)),(1,.fn f [.ptr 0 0]),(7,.int .i64 ((l.map bJ.row).length:Int)),(8,.int .i64 (i:Int))]) (fun _=>[(0,T,cs)]) (fun _=>[]) (fun i=>i≤l.length∧dj (fun v=> !g v) (l.drop i) i=dj (fun v=> !g v) l 0) (fun i=>l.length-i) ⟨bc3 _,rfl⟩ ⟨rfl,rfl,rfl,rfl,trivial⟩ ⟨rfl,trivial⟩ trivial ?_
 rintro i ⟨af,aw⟩
 try simp only at af aw ⊢
 cases ad:l[i]? with
 |some v=>
  have cz:=(List.getElem?_eq_some_iff.1 ad).1
  rw[eN ad]at aw
  simp only[dj]at aw
  have d1:(i:Int)<((l.map bJ.row).length:Int):=by rw[bb5]; omega
  have e:=h v (bc2 ad)
  generalize g v=b at e aw
  clear h
  (have ae:=d1;refine bt ?_;clear ae)
  refine D.ww aT hb ac (rfl) e ?_
  cases b
  ·refine ak ?_
   refine ar.eC (i+1) ⟨by omega,aw⟩ ⟨rfl,rfl,rfl,by simp only[bb8]; rfl,trivial⟩ ⟨rfl,trivial⟩ trivial rfl rfl (by show l.length-(i+1)<l.length-i; omega)
  ·refine ak ?_
   refine D.r ?_
   exact⟨by rw[←aw]; rfl,⟨rfl,trivial⟩,trivial⟩
 |none=>
  have b4:=List.getElem?_eq_none_iff.1 ad
  have d1: ¬(i:Int)<((l.map bJ.row).length:Int):=by rw[bb5]; omega
  rw[bc6 b4]at aw
  (have ae:=d1;refine bt ?_;clear ae)
  refine D.r ?_
  exact⟨by rw[←aw]; rfl,⟨rfl,trivial⟩,trivial⟩
theorem aS8 {f:FuncId}{T:TypeId}{cs:List I}(aT:c6 bb4 f=true) (hb:dw 1 0 cs=true) (ac:e7 ⟨[0],[]⟩ cs=cs) (g:bJ→Bool) (l:List bJ) (aG:l.length≤1000000000000) (h: ∀v∈l,bg bb4 f [.agg (bJ.row v),.ptr 0 0] (aN.of 1 0 [(0,T,cs)] []) (dA (.bool (g v)) [(0,T,cs)] [])):bg bb4 162 [.aq 7 (l.map bJ.row),.fn f [.ptr 0 0]] (aN.of 1 0 [(0,T,cs)] []) (dA (.bool (l.any g)) [(0,T,cs)] []):=by
 have e:=Tq aT hb ac g l aG h
 rw[←uq]
 generalize dj (fun v=> !g v) l 0=z at e ⊢
 clear h
 refine bg.intro be Tryz.func162 IR ?_
 unfold D7 Gv
 simp(disch:=omega)only[go_sem,simprocAttr]
 refine ak ?_
 refine D.wy hb ac (dW l) e ?_
 refine ak ?_
 refine D.r ?_
 exact⟨rfl,⟨rfl,trivial⟩,trivial⟩
theorem aT1 {f:FuncId}{T:TypeId}{cs:List I}(aT:c6 bb4 f=true) (hb:dw 1 0 cs=true) (ac:e7 ⟨[0],[]⟩ cs=cs) (g:bS→Bool) (l:List bS) (aG:l.length≤1000000000000) (h: ∀v∈l,bg bb4 f [.agg (bS.row v),.ptr 0 0] (aN.of 1 0 [(0,T,cs)] []) (dA (.bool (g v)) [(0,T,cs)] [])):bg bb4 183 [.aq 4 (l.map bS.row),.fn f [.ptr 0 0]] (aN.of 1 0 [(0,T,cs)] []) (dA (.int .i64 (dj (fun v=> !g v) l 0)) [(0,T,cs)] []):=by
 refine bg.intro be Tryz.func183 Dy ?_
 unfold Be Cu
 simp(disch:=omega)only[go_sem,simprocAttr]
 refine ak ?_
 refine ar.cU (X:=Nat) 0 (fun i=>[(0,.aq 4 (l.map bS.row)),(1,.fn f [.ptr 0 0]),(7,.int .i64 ((l.map bS.row).length:Int)),(8,.int .i64 (i:Int))]) (fun _=>[(0,T,cs)]) (fun _=>[]) (fun i=>i≤l.length∧dj (fun v=> !g v) (l.drop i) i=dj (fun v=> !g v) l 0) (fun i=>l.length-i) ⟨bc3 _,rfl⟩ ⟨rfl,rfl,rfl,rfl,trivial⟩ ⟨rfl,trivial⟩ trivial ?_
 rintro i ⟨af,aw⟩
 try simp only at af aw ⊢
 cases ad:l[i]? with
 |some v=>
  have cz:=(List.getElem?_eq_some_iff.1 ad).1
  rw[eN ad]at aw
  simp only[dj]at aw
  have d1:(i:Int)<((l.map bS.row).length:Int):=by rw[bb5]; omega
  have e:=h v (bc2 ad)
  generalize g v=b at e aw
  clear h
  (have ae:=d1;refine bt ?_;clear ae)
  refine D.ww aT hb ac (by simp only[I.flat,bS.row,b2,ai.l0,ai.cx,dn,bc0]) e ?_
  cases b
  ·refine ak ?_
   refine ar.eC (i+1) ⟨by omega,aw⟩ ⟨rfl,rfl,rfl,by simp only[bb8]; rfl,trivial⟩ ⟨rfl,trivial⟩ trivial rfl rfl (by show l.length-(i+1)<l.length-i; omega)
  ·refine ak ?_
   refine D.r ?_
   exact⟨by rw[←aw]; rfl,⟨rfl,trivial⟩,trivial⟩
 |none=>
  have b4:=List.getElem?_eq_none_iff.1 ad
  have d1: ¬(i:Int)<((l.map bS.row).length:Int):=by rw[bb5]; omega
  rw[bc6 b4]at aw
  (have ae:=d1;refine bt ?_;clear ae)
  refine D.r ?_
  exact⟨by rw[←aw]; rfl,⟨rfl,trivial⟩,trivial⟩
theorem aW2 {f:FuncId}{T:TypeId}{cs:List I}(aT:c6 bb4 f=true) (hb:dw 1 0 cs=true) (ac:e7 ⟨[0],[]⟩ cs=cs) (g:bS→Bool) (l:List bS) (aG:l.length≤1000000000000) (h: ∀v∈l,bg bb4 f [.agg (bS.row v),.ptr 0 0] (aN.of 1 0 [(0,T,cs)] []) (dA (.bool (g v)) [(0,T,cs)] [])):bg bb4 96 [.aq 4 (l.map bS.row),.fn f [.ptr 0 0]] (aN.of 1 0 [(0,T,cs)] []) (dA (.bool (l.any g)) [(0,T,cs)] []):=by
 have e:=aT1 aT hb ac g l aG h
 rw[←uq]
 generalize dj (fun v=> !g v) l 0=z at e ⊢
 clear h
 refine bg.intro be Tryz.func96 DE ?_
 unfold wW CB
 simp(disch:=omega)only[go_sem,simprocAttr]
 refine ak ?_
 refine D.wy hb ac (dF l) e ?_
 refine ak ?_
 refine D.r ?_
 exact⟨rfl,⟨rfl,trivial⟩,trivial⟩
theorem Tm {f:FuncId}{T:TypeId}{cs:List I}(aT:c6 bb4 f=true) (hb:dw 1 0 cs=true) (ac:e7 ⟨[0],[]⟩ cs=cs) (g:cj→Bool) (l:List cj) (aG:l.length≤1000000000000) (h: ∀v∈l,bg bb4 f [.agg (cj.row v),.ptr 0 0] (aN.of 1 0 [(0,T,cs)] []) (dA (.bool (g v)) [(0,T,cs)] [])):bg bb4 139 [.aq 5 (l.map cj.row),.fn f [.ptr 0 0]] (aN.of 1 0 [(0,T,cs)] []) (dA (.int .i64 (dj (fun v=> !g v) l 0)) [(0,T,cs)] []):=by
 refine bg.intro be Tryz.func139 Vf ?_
 unfold Kf Qk
 simp(disch:=omega)only[go_sem,simprocAttr]
 refine ak ?_
 refine ar.cU (X:=Nat) 0 (fun i=>[(0,.aq 5 (l.map cj.row)),(1,.fn f [.ptr 0 0]),(7,.int .i64 ((l.map cj.row).length:Int)),(8,.int .i64 (i:Int))]) (fun _=>[(0,T,cs)]) (fun _=>[]) (fun i=>i≤l.length∧dj (fun v=> !g v) (l.drop i) i=dj (fun v=> !g v) l 0) (fun i=>l.length-i) ⟨bc3 _,rfl⟩ ⟨rfl,rfl,rfl,rfl,trivial⟩ ⟨rfl,trivial⟩ trivial ?_
 rintro i ⟨af,aw⟩
 try simp only at af aw ⊢
 cases ad:l[i]? with
 |some v=>
  have cz:=(List.getElem?_eq_some_iff.1 ad).1
  rw[eN ad]at aw
  simp only[dj]at aw
  have d1:(i:Int)<((l.map cj.row).length:Int):=by rw[bb5]; omega
  have e:=h v (bc2 ad)
  generalize g v=b at e aw
  clear h
  (have ae:=d1;refine bt ?_;clear ae)
  refine D.ww aT hb ac (by simp only[I.flat,cj.row,b2,gz,gy,hB,bc0]) e ?_
  cases b
  ·refine ak ?_
   refine ar.eC (i+1) ⟨by omega,aw⟩ ⟨rfl,rfl,rfl,by simp only[bb8]; rfl,trivial⟩ ⟨rfl,trivial⟩ trivial rfl rfl (by show l.length-(i+1)<l.length-i; omega)
  ·refine ak ?_
   refine D.r ?_
   exact⟨by rw[←aw]; rfl,⟨rfl,trivial⟩,trivial⟩
 |none=>
  have b4:=List.getElem?_eq_none_iff.1 ad
  have d1: ¬(i:Int)<((l.map cj.row).length:Int):=by rw[bb5]; omega
  rw[bc6 b4]at aw
  (have ae:=d1;refine bt ?_;clear ae)
  refine D.r ?_
  exact⟨by rw[←aw]; rfl,⟨rfl,trivial⟩,trivial⟩
theorem aV1 {f:FuncId}{T:TypeId}{cs:List I}(aT:c6 bb4 f=true) (hb:dw 1 0 cs=true) (ac:e7 ⟨[0],[]⟩ cs=cs) (g:cj→Bool) (l:List cj) (aG:l.length≤1000000000000) (h: ∀v∈l,bg bb4 f [.agg (cj.row v),.ptr 0 0] (aN.of 1 0 [(0,T,cs)] []) (dA (.bool (g v)) [(0,T,cs)] [])):bg bb4 375 [.aq 5 (l.map cj.row),.fn f [.ptr 0 0]] (aN.of 1 0 [(0,T,cs)] []) (dA (.bool (l.any g)) [(0,T,cs)] []):=by
 have e:=Tm aT hb ac g l aG h
 rw[←uq]
 generalize dj (fun v=> !g v) l 0=z at e ⊢
 clear h
 refine bg.intro be Tryz.func375 WS ?_
 unfold LL RY
 simp(disch:=omega)only[go_sem,simprocAttr]
 refine ak ?_
 refine D.wy hb ac (e9 l) e ?_
 refine ak ?_
 refine D.r ?_
 exact⟨rfl,⟨rfl,trivial⟩,trivial⟩
theorem aU8 {f:FuncId}{T:TypeId}{cs:List I}(aT:c6 bb4 f=true) (hb:dw 1 0 cs=true) (ac:e7 ⟨[0],[]⟩ cs=cs) (g:df→Bool) (l:List df) (aG:l.length≤1000000000000) (h: ∀v∈l,bg bb4 f [.agg (df.row v),.ptr 0 0] (aN.of 1 0 [(0,T,cs)] []) (dA (.bool (g v)) [(0,T,cs)] [])):bg bb4 342 [.aq 6 (l.map df.row),.fn f [.ptr 0 0]] (aN.of 1 0 [(0,T,cs)] []) (dA (.int .i64 (dj (fun v=> !g v) l 0)) [(0,T,cs)] []):=by
 refine bg.intro be Tryz.func342 WJ ?_
 unfold LF RQ
 simp(disch:=omega)only[go_sem,simprocAttr]
 refine ak ?_
 refine ar.cU (X:=Nat) 0 (fun i=>[(0,.aq 6 (l.map df.row)),(1,.fn f [.ptr 0 0]),(7,.int .i64 ((l.map df.row).length:Int)),(8,.int .i64 (i:Int))]) (fun _=>[(0,T,cs)]) (fun _=>[]) (fun i=>i≤l.length∧dj (fun v=> !g v) (l.drop i) i=dj (fun v=> !g v) l 0) (fun i=>l.length-i) ⟨bc3 _,rfl⟩ ⟨rfl,rfl,rfl,rfl,trivial⟩ ⟨rfl,trivial⟩ trivial ?_
 rintro i ⟨af,aw⟩
 try simp only at af aw ⊢
 cases ad:l[i]? with
 |some v=>
  have cz:=(List.getElem?_eq_some_iff.1 ad).1
  rw[eN ad]at aw
  simp only[dj]at aw
  have d1:(i:Int)<((l.map df.row).length:Int):=by rw[bb5]; omega
  have e:=h v (bc2 ad)
  generalize g v=b at e aw
  clear h
  (have ae:=d1;refine bt ?_;clear ae)
  refine D.ww aT hb ac (rfl) e ?_
  cases b
  ·refine ak ?_
   refine ar.eC (i+1) ⟨by omega,aw⟩ ⟨rfl,rfl,rfl,by simp only[bb8]; rfl,trivial⟩ ⟨rfl,trivial⟩ trivial rfl rfl (by show l.length-(i+1)<l.length-i; omega)
  ·refine ak ?_
   refine D.r ?_
   exact⟨by rw[←aw]; rfl,⟨rfl,trivial⟩,trivial⟩
 |none=>
  have b4:=List.getElem?_eq_none_iff.1 ad
  have d1: ¬(i:Int)<((l.map df.row).length:Int):=by rw[bb5]; omega
  rw[bc6 b4]at aw
  (have ae:=d1;refine bt ?_;clear ae)
  refine D.r ?_
  exact⟨by rw[←aw]; rfl,⟨rfl,trivial⟩,trivial⟩
theorem aT7 {f:FuncId}{T:TypeId}{cs:List I}(aT:c6 bb4 f=true) (hb:dw 1 0 cs=true) (ac:e7 ⟨[0],[]⟩ cs=cs) (g:df→Bool) (l:List df) (aG:l.length≤1000000000000) (h: ∀v∈l,bg bb4 f [.agg (df.row v),.ptr 0 0] (aN.of 1 0 [(0,T,cs)] []) (dA (.bool (g v)) [(0,T,cs)] [])):bg bb4 263 [.aq 6 (l.map df.row),.fn f [.ptr 0 0]] (aN.of 1 0 [(0,T,cs)] []) (dA (.bool (l.any g)) [(0,T,cs)] []):=by
 have e:=aU8 aT hb ac g l aG h
 rw[←uq]
 generalize dj (fun v=> !g v) l 0=z at e ⊢
 clear h
 refine bg.intro be Tryz.func263 Wb ?_
 unfold K9 Rh
 simp(disch:=omega)only[go_sem,simprocAttr]
 refine ak ?_
 refine D.wy hb ac (fK l) e ?_
 refine ak ?_
 refine D.r ?_
 exact⟨rfl,⟨rfl,trivial⟩,trivial⟩
theorem aV7 {f:FuncId}{T:TypeId}{cs:List I}(aT:c6 bb4 f=true) (hb:dw 1 0 cs=true) (ac:e7 ⟨[0],[]⟩ cs=cs) (g:Fd→Bool) (l:List Fd) (aG:l.length≤1000000000000) (h: ∀v∈l,bg bb4 f [.agg (Fd.row v),.ptr 0 0] (aN.of 1 0 [(0,T,cs)] []) (dA (.bool (g v)) [(0,T,cs)] [])):bg bb4 400 [.aq 4 (l.map Fd.row),.fn f [.ptr 0 0]] (aN.of 1 0 [(0,T,cs)] []) (dA (.int .i64 (dj (fun v=> !g v) l 0)) [(0,T,cs)] []):=by
 refine bg.intro be Tryz.func400 W1 ?_
 unfold LV r400
 simp(disch:=omega)only[go_sem,simprocAttr]
 refine ak ?_
 refine ar.cU (X:=Nat) 0 (fun i=>[(0,.aq 4 (l.map Fd.row)),(1,.fn f [.ptr 0 0]),(7,.int .i64 ((l.map Fd.row).length:Int)),(8,.int .i64 (i:Int))]) (fun _=>[(0,T,cs)]) (fun _=>[]) (fun i=>i≤l.length∧dj (fun v=> !g v) (l.drop i) i=dj (fun v=> !g v) l 0) (fun i=>l.length-i) ⟨bc3 _,rfl⟩ ⟨rfl,rfl,rfl,rfl,trivial⟩ ⟨rfl,trivial⟩ trivial ?_
 rintro i ⟨af,aw⟩
 try simp only at af aw ⊢
 cases ad:l[i]? with
 |some v=>
  have cz:=(List.getElem?_eq_some_iff.1 ad).1
  rw[eN ad]at aw
  simp only[dj]at aw
  have d1:(i:Int)<((l.map Fd.row).length:Int):=by rw[bb5]; omega
  have e:=h v (bc2 ad)
  generalize g v=b at e aw
  clear h
  (have ae:=d1;refine bt ?_;clear ae)
  refine D.ww aT hb ac (rfl) e ?_
  cases b
  ·refine ak ?_
   refine ar.eC (i+1) ⟨by omega,aw⟩ ⟨rfl,rfl,rfl,by simp only[bb8]; rfl,trivial⟩ ⟨rfl,trivial⟩ trivial rfl rfl (by show l.length-(i+1)<l.length-i; omega)
  ·refine ak ?_
   refine D.r ?_
   exact⟨by rw[←aw]; rfl,⟨rfl,trivial⟩,trivial⟩
 |none=>
  have b4:=List.getElem?_eq_none_iff.1 ad
  have d1: ¬(i:Int)<((l.map Fd.row).length:Int):=by rw[bb5]; omega
  rw[bc6 b4]at aw
  (have ae:=d1;refine bt ?_;clear ae)
  refine D.r ?_
  exact⟨by rw[←aw]; rfl,⟨rfl,trivial⟩,trivial⟩
theorem aV4 {f:FuncId}{T:TypeId}{cs:List I}(aT:c6 bb4 f=true) (hb:dw 1 0 cs=true) (ac:e7 ⟨[0],[]⟩ cs=cs) (g:Fd→Bool) (l:List Fd) (aG:l.length≤1000000000000) (h: ∀v∈l,bg bb4 f [.agg (Fd.row v),.ptr 0 0] (aN.of 1 0 [(0,T,cs)] []) (dA (.bool (g v)) [(0,T,cs)] [])):bg bb4 378 [.aq 4 (l.map Fd.row),.fn f [.ptr 0 0]] (aN.of 1 0 [(0,T,cs)] []) (dA (.bool (l.any g)) [(0,T,cs)] []):=by
 have e:=aV7 aT hb ac g l aG h
 rw[←uq]
 generalize dj (fun v=> !g v) l 0=z at e ⊢
 clear h
 refine bg.intro be Tryz.func378 WV ?_
 unfold LO R1
 simp(disch:=omega)only[go_sem,simprocAttr]
 refine ak ?_
 refine D.wy hb ac (gz l) e ?_
 refine ak ?_
 refine D.r ?_
 exact⟨rfl,⟨rfl,trivial⟩,trivial⟩
theorem aU9 {f:FuncId}{T:TypeId}{cs:List I}(aT:c6 bb4 f=true) (hb:dw 1 0 cs=true) (ac:e7 ⟨[0],[]⟩ cs=cs) (g:Int→Bool) (l:List Int) (aG:l.length≤1000000000000) (h: ∀v∈l,bg bb4 f [.int .i64 v,.ptr 0 0] (aN.of 1 0 [(0,T,cs)] []) (dA (.bool (g v)) [(0,T,cs)] [])):bg bb4 343 [.aq 1 (l.map dM),.fn f [.ptr 0 0]] (aN.of 1 0 [(0,T,cs)] []) (dA (.int .i64 (dj (fun v=> !g v) l 0)) [(0,T,cs)] []):=by
 refine bg.intro be Tryz.func343 WK ?_
 unfold LG RR
 simp(disch:=omega)only[go_sem,simprocAttr]
 refine ak ?_
 refine ar.cU (X:=Nat) 0 (fun i=>[(0,.aq 1 (l.map dM)),(1,.fn f [.ptr 0 0]),(7,.int .i64 ((l.map dM).length:Int)),(8,.int .i64 (i:Int))]) (fun _=>[(0,T,cs)]) (fun _=>[]) (fun i=>i≤l.length∧dj (fun v=> !g v) (l.drop i) i=dj (fun v=> !g v) l 0) (fun i=>l.length-i) ⟨bc3 _,rfl⟩ ⟨rfl,rfl,rfl,rfl,trivial⟩ ⟨rfl,trivial⟩ trivial ?_
 rintro i ⟨af,aw⟩
 try simp only at af aw ⊢
 cases ad:l[i]? with
 |some v=>
  have cz:=(List.getElem?_eq_some_iff.1 ad).1
  rw[eN ad]at aw
  simp only[dj]at aw
  have d1:(i:Int)<((l.map dM).length:Int):=by rw[bb5]; omega
  have e:=h v (bc2 ad)
  generalize g v=b at e aw
  clear h
  (have ae:=d1;refine bt ?_;clear ae)
  refine D.ww aT hb ac (rfl) e ?_
  cases b
  ·refine ak ?_
   refine ar.eC (i+1) ⟨by omega,aw⟩ ⟨rfl,rfl,rfl,by simp only[bb8]; rfl,trivial⟩ ⟨rfl,trivial⟩ trivial rfl rfl (by show l.length-(i+1)<l.length-i; omega)
  ·refine ak ?_
   refine D.r ?_
   exact⟨by rw[←aw]; rfl,⟨rfl,trivial⟩,trivial⟩
 |none=>
  have b4:=List.getElem?_eq_none_iff.1 ad
  have d1: ¬(i:Int)<((l.map dM).length:Int):=by rw[bb5]; omega
  rw[bc6 b4]at aw
  (have ae:=d1;refine bt ?_;clear ae)
  refine D.r ?_
  exact⟨by rw[←aw]; rfl,⟨rfl,trivial⟩,trivial⟩
theorem aU1 {f:FuncId}{T:TypeId}{cs:List I}(aT:c6 bb4 f=true) (hb:dw 1 0 cs=true) (ac:e7 ⟨[0],[]⟩ cs=cs) (g:Int→Bool) (l:List Int) (aG:l.length≤1000000000000) (h: ∀v∈l,bg bb4 f [.int .i64 v,.ptr 0 0] (aN.of 1 0 [(0,T,cs)] []) (dA (.bool (g v)) [(0,T,cs)] [])):bg bb4 268 [.aq 1 (l.map dM),.fn f [.ptr 0 0]] (aN.of 1 0 [(0,T,cs)] []) (dA (.bool (l.any g)) [(0,T,cs)] []):=by
 have e:=aU9 aT hb ac g l aG h
 rw[←uq]
 generalize dj (fun v=> !g v) l 0=z at e ⊢
 clear h
 refine bg.intro be Tryz.func268 Wf ?_
 unfold Ld Rl
 simp(disch:=omega)only[go_sem,simprocAttr]
 refine ak ?_
 refine D.wy hb ac (hE l) e ?_
 refine ak ?_
 refine D.r ?_
 exact⟨rfl,⟨rfl,trivial⟩,trivial⟩
end
end Go.ba.T.N
namespace Go.Proofs
set_option maxRecDepth 100000
theorem aP4 (w:World):(Instr.typeAssert .nilIface 20 180 true).run bb4 w= .ok (.tuple #[.agg #[.string ByteArray.empty,.int .i64 0],.bool false]) w:=by
 have aw:(Tryz.prog.info? 180).bind (·.zero)=some (.agg #[.string ByteArray.empty,.int .i64 0]):=by kernel_rfl
 cases af:Tryz.prog.info? 180 with
 |none=>rw[af]at aw; cases aw
 |some i=>
  rw[af]at aw
  simp at aw
  simp [Instr.typeAssert,run_underlying Tryz.underlying180,zeroValue,typeInfo,af,aw]
theorem ai0 (p q:Value) (w:World):
  CallsD bb4 83 #[p,q] .returning w fun e qf w'=>e= .returned (.tuple #[])∧qf= .returning∧w'.os=w.os∧w'.tape=w.tape∧w'.output=w.output∧w'.heap.size=w.heap.size+1∧∀b,b<w.heap.size→w'.heap[b]? =w.heap[b]? :=by
 refine callsD_of_wpS Tryz.func83 rfl fun JC cs hu=> ?_
 apply wpS_seq
 apply wpS_region
 simp [wpOpsS,go_sem,recoverD,hu,Tryz.ntmps83,Exit.thenS,aP4]
 apply wpS_seq
 apply wpS_region
 simp [wpOpsS,go_sem,Exit.thenS]
 refine wpS_cond (t:=false) (by simp [Act.eval,bk9]) ?_
 simp only[bd5,if_false]
 refine wpS_of_wp (wp_skip ?_)
 cases JC
 simp_all [bodyPostS,results,Tryz.results83]
 refine⟨rfl,rfl,fun b hb=> ?_⟩
 try rw[heap_setCell_other _ _ _ _ (by simp; omega),heap_setCell_other _ _ _ _ (by simp; omega)]
 show (w.heap.push _)[b]? = _
 rw[Array.getElem?_push,if_neg (by omega)]
 exact Array.getElem?_eq_getElem hb
end Go.Proofs
namespace Go.ba.T.N
open Go Go.ba Go.Proofs
theorem XO (gx:List I) (an:gx.length=2):Az bb4 83 gx:=by
 intro m aq bd ad
 have aG:=aR.length ad
 match aq,aG with
 |[p,q],_=>
  refine (ai0 p q m.w).mono ?_
  rintro e qf w' ⟨rfl,rfl,U,aa,aD,bA,b6⟩
  exact⟨⟨_,rfl⟩,rfl,m.L,m.T,bW.hid bd U aa aD (by omega) b6,bV.hid U aa aD (by omega) b6⟩
 |[],h=>simp [an]at h
 |[_],h=>simp [an]at h
 | _:: _:: _:: _,h=>simp [an]at h
end Go.ba.T.N
namespace Go.Proofs
set_option maxRecDepth 100000
theorem aP3 (v:Value) (w:World):(Instr.typeAssert (.iface 180 v) 20 180 true).run bb4 w= .ok (.tuple #[v,.bool true]) w:=by
 simp [Instr.typeAssert,run_underlying Tryz.underlying180]
end Go.Proofs
namespace Go.ba.T.N
open Go Go.ba Go.Proofs
set_option maxRecDepth 100000
def CA:List bK:=[⟨some 10,none,.nZ 0 (.t 2)⟩,⟨some 11,none,.gb 2 false 1 (.t 10)⟩,⟨some 12,none,.nZ 1 (.t 2)⟩,⟨some 13,none,.gb 2 false 1 (.t 12)⟩,⟨none,none,.gK 0 [1,2] 1 (.t 0) (.t 11)⟩,⟨none,none,.gK 1 [0,2] 1 (.t 1) (.t 13)⟩]
theorem GX (H:aA) (b:Nat) (T:TypeId) (cs:List I):(H.cp b T cs).aY b=some (T,cs):=if_pos rfl
theorem GW (H:aA){b k:Nat}(T:TypeId) (cs:List I) (h:k≠b):(H.cp b T cs).aY k=H.aY k:=if_neg h
theorem aZ2 {H:aA}{h9 e5 z:Nat}{s:List UInt8}{e:Int}{v0 v1:I}{env:Env}{K:Env→aA→Prop}{Rp:I→aA→Prop}(bN:env.get 0= .ptr h9 0) (ap:env.get 1= .ptr e5 0) (ay:env.get 2= .ptr z 0)
  (aW:H.aY h9=some (9,[v0])) (U:H.aY e5=some (41,[v1])) (aa:H.aY z=some (180,[.str s,.int .i64 e])) (yy:h9≠e5) (d0:h9≠z) (d1:e5≠z)
  (dL: ∀bb,K bb ((H.cp h9 9 [.str s]).cp e5 41 [.int .i64 e])):bn bb4 CA env H K Rp:=by
 unfold CA
 refine bn.p (v:= .ptr z 0) (by simp [bX,aJ.aI,Env.get,ay]) ?_
 refine bn.p (v:= .str s) (by simp [bX,aJ.aI,Env.get,ay,aa,I.iA,I.one]) ?_
 refine bn.p (v:= .ptr z 1) (by simp [bX,aJ.aI,Env.get,ay]) ?_
 refine bn.p (v:= .int .i64 e) (by simp [bX,aJ.aI,Env.get,ay,aa,I.iA,I.one]) ?_
 rw[AA]
 simp only[GStep,wanted]
 refine .gK (b:=h9) (o:=0) (T:=9) (cs:=[v0]) (by simp [Env.get,bN]) (fun s ao=> ?_) (by simp [aJ.aI,Env.get,bN]) aW rfl (bc1 _) rfl ?_
 ·simp only[be4,bh8,or_false]at ao
  rcases ao with rfl|rfl
  ·exact⟨e5,by simp [Env.get,ap],yy.symm⟩
  ·exact⟨z,by simp [Env.get,ay],d0.symm⟩
 rw[AA]
 simp only[GStep,wanted]
 refine .gK (b:=e5) (o:=0) (T:=41) (cs:=[v1]) (by simp [Env.get,Env.put,ap]) (fun s ao=> ?_) (by simp [aJ.aI,Env.get,Env.put,ap]) (by rw[GW _ _ _ yy.symm]; exact U) rfl (bc1 _) rfl ?_
 ·simp only[be4,bh8,or_false]at ao
  rcases ao with rfl|rfl
  ·exact⟨h9,by simp [Env.get,Env.put,bN],yy⟩
  ·exact⟨z,by simp [Env.get,Env.put,ay],d1.symm⟩
 exact bn.nil (dL _)
theorem aq8:Tryz.prog.follows .mixedOrders=true:=by kernel_rfl
theorem Xy:(match Tryz.f83.body with
  |some (.seq _ (.seq _ (.cond _ r _)))=>kU bb4 14 r (.region CA true)
  | _=>false)=true:=by kernel_rfl
set_option maxHeartbeats 8000000 in
theorem aw6 {m:Mem}(bd:bW m){h9 e5:Nat}{s:List UInt8}{e:Int}(ao:s.length≤maxLen){v0 v1:I}(aW:m.H.aY h9=some (9,[v0])) (U:m.H.aY e5=some (41,[v1])) (yy:h9≠e5):
  CallsD bb4 83 #[.pointer (some ⟨h9,0,none⟩),.pointer (some ⟨e5,0,none⟩)] (.panicking [{v:= .iface 180 (.agg #[.string ⟨⟨s⟩⟩,.int .i64 e]),recovered:=false}]) m.w fun x qf w'=>
   (∃v,x= .returned v)∧qf= .panicking [{v:= .iface 180 (.agg #[.string ⟨⟨s⟩⟩,.int .i64 e]),recovered:=true}]∧∃aC gw cG,bW ⟨w',aC,gw,cG⟩∧bV m ⟨w',aC,gw,cG⟩∧aC=(m.H.cp h9 9 [.str s]).cp e5 41 [.int .i64 e]:=by
 have uf:=sp bd aW
 have aK:=sp bd U
 obtain⟨z,aw⟩: ∃z,z=m.w.heap.size:=⟨_,rfl⟩
 refine callsD_of_wpS Tryz.func83 rfl fun JC cs hu=> ?_
 apply wpS_seq
 apply wpS_region
 simp [wpOpsS,go_sem,recoverD,hu,Tryz.ntmps83,Exit.thenS,aP3]
 apply wpS_seq
 apply wpS_region
 simp [wpOpsS,go_sem,Exit.thenS]
 refine wpS_cond (t:=true) (by simp [Act.eval,bk9]) ?_
 simp only[if_true]
 refine wpS_of_wp ?_
 have aV:=Xy
 simp only[Tryz.f83]at aV
 have aH7:bW (m.bP 180 [.str s,.int .i64 e] [.string ⟨⟨s⟩⟩,.int .i64 e]):=bW.bP bd (by simp [aR,aP,ao]) (by simp [Value.oneCell'])
 have YP:=bV.bP m 180 [.str s,.int .i64 e] [.string ⟨⟨s⟩⟩,.int .i64 e]
 refine aG3 (n:=14) (m0:=⟨m,[],[]⟩) (anns:=[]) (ops:=CA) (env:=[(0,.ptr h9 0),(1,.ptr e5 0),(2,.ptr z 0)]) (H:=m.H.cp z 180 [.str s,.int .i64 e]) (K:=fun _ H=>H=((m.H.cp z 180 [.str s,.int .i64 e]).cp h9 9 [.str s]).cp e5 41 [.int .i64 e]) (Rp:=fun _ _=>False) aq8 rfl aV (fun x aX ku a h=>h.elim) (fun env H a w dL ac=> ?_) ?_ ⟨m.bP 180 [.str s,.int .i64 e] [.string ⟨⟨s⟩⟩,.int .i64 e],?_,by rw[aw]; rfl,aH7,YP,fun k=> ?_,⟨rfl,fun E dc=>by cases dc⟩,?_⟩
 ·obtain⟨aX,rfl,rfl,GK,Ep,_,gA,_⟩:=ac
  have Nu:HSub ((m.H.cp h9 9 [I.str s]).cp e5 41 [I.int IntKind.i64 e]) aX.H:=by
   rw[dL]
   refine⟨fun b x hb=> ?_,fun t i aL=>aL⟩
   have Z7:m.H.aY z=none:=by rw[aw]; exact wF bd
   simp only[aA.cp]at hb ⊢
   by_cases br:b=e5
   ·simpa [br] using hb
   by_cases sM:b=h9
   ·simpa [br,sM] using hb
   simp only[br,sM,if_false]at hb ⊢
   rw[if_neg (by intro e; rw[e,Z7]at hb; cases hb)]
   exact hb
  refine⟨gA.1,_,rfl,.tuple #[],by simp [Go.results,Tryz.results83],⟨_,rfl⟩,rfl,_,aX.L,aX.T,bW.forget Nu GK,bV.forget Nu Ep,rfl⟩
 ·refine aZ2 rfl rfl rfl (by rw[GW _ _ _ (by omega)]; exact aW) (by rw[GW _ _ _ (by omega)]; exact U) (GX _ _ _ _) yy (by omega) (by omega) fun _=>rfl
 ·rfl
 ·match k with
  |0=>simp [Env.get,aP,bk9]
  |1=>simp [Env.get,aP,bk9]
  |2=>simp [Env.get,aP,bk9,aw]
  |k+3=>simp [Env.get,aP]
 ·simp
def lQ (n:List UInt8) (e:Int):I:= .hW 180 (.agg [.str n,.int .i64 e])
theorem XP {c:aN}{h9 e5:Nat}{v0 v1:I}{s:List UInt8}{e:Int}(eg:h9≠e5) (yU:c.H.aY h9=some (9,[v0])) (mP:c.H.aY e5=some (41,[v1])):
  wv bb4 83 [.ptr h9 0,.ptr e5 0] (lQ s e) c fun cb=>cb=(c.cp h9 9 [.str s]).cp e5 41 [.int .i64 e]:=by
 intro H0 SK yq cN H M1 ab ac
 simp only[bk,aM]at M1
 obtain⟨_,_,rfl,⟨C0,g0,rfl⟩,_,_,rfl,⟨qg,g1,rfl⟩,rfl⟩:=M1
 have jv:cN=lQ s e:=(I.lA (lQ s e) rfl cN).1 ab
 subst jv
 intro m aq ku fL bd ad yY
 subst fL
 simp only[aR,aP,lQ]at ad yY
 obtain⟨_,_,rfl,rfl,_,_,rfl,rfl,rfl⟩:=ad
 obtain⟨x,rfl,l,rfl,_,_,rfl,⟨rfl,vA⟩,_,_,rfl,rfl,rfl⟩:=yY
 obtain⟨z0,uf,sM,kh,jy⟩:=ac.aY _ _ _ yU
 obtain⟨ae,aK,br,ci,cm⟩:=ac.aY _ _ _ mP
 rw[g0]at sM
 rw[g1]at br
 cases sM
 cases br
 have cL:=bk.length jy
 have qS:=bk.length cm
 match uf,cL,kh with
 |[uI],_,kh=>
 match aK,qS,ci with
 |[pC],_,ci=>
 refine (aw6 bd vA kh ci (fun e=> ?_)).mono ?_
 ·subst e; exact absurd (ac.lF _ _ _ g0 g1) eg
 rintro ct qf w' ⟨U,aa,aC,gw,cG,aD,bA,rfl⟩
 refine⟨U,aa,_,gw,cG,aD,bA,SK,_,bx.eH.refl SK,rfl,?_⟩
 exact (ac.cp g0 (by simp [bk,aM])).cp g1 (by simp [bk,aM])
end Go.ba.T.N
namespace Go.ba.T.N
open Go Go.ba Go.Proofs Go.RowKit
set_option maxRecDepth 100000
attribute [local irreducible] Go.ba.ar Go.ba.al Go.ba.bg
section
attribute [local go_sem] bJ.row dW
theorem Tp (k b3 af:Int):Pure bb4 163 [.agg [.int .i64 k,.int .i64 b3,.int .i64 af]] (.bool (nI k b3 af)):=by
 refine cw be Tryz.func163 Vr rfl rfl ?_
 unfold Kr Qx
 simp(disch:=omega)only[go_sem,simprocAttr]
 (repeat' first|refine D.S ?_|refine D.fg true true ?_|refine al.nil ?_|refine ar.c9 ?_|refine D.W ?_|refine D.Z ?_|refine D.G ?_ ?_|refine D.X ‹_› ?_|refine D.ja ‹_› ?_|refine D.jb ‹_› ?_|intro h|refine D.C ?_ ?_)
 all_goals (refine D.R ?_)
 all_goals (refine⟨_,rfl,.aF ?_ rfl,trivial,trivial⟩; simp_all [nI,I.aF]<;>(try omega))
theorem aV3 (k b3 af:Int):Pure bb4 377 [.agg [.int .i64 k,.int .i64 b3,.int .i64 af]] (.bool (nI k b3 af)):=by
 refine cw be Tryz.func377 WU rfl rfl ?_
 unfold LN R0
 simp(disch:=omega)only[go_sem,simprocAttr]
 (repeat' first|refine D.S ?_|refine D.fg true true ?_|refine al.nil ?_|refine ar.c9 ?_|refine D.W ?_|refine D.Z ?_|refine D.G ?_ ?_|refine D.X ‹_› ?_|refine D.ja ‹_› ?_|refine D.jb ‹_› ?_|intro h|refine D.C ?_ ?_)
 all_goals (refine D.R ?_)
 all_goals (refine⟨_,rfl,.aF ?_ rfl,trivial,trivial⟩; simp_all [nI,I.aF]<;>(try omega))
theorem aT2 (s:List UInt8):Pure bb4 228 [.str s] (.bool (s.all ea)):=by
 have e:=av7 s
 generalize s.all ea=b at e ⊢
 refine cw be Tryz.func228 V5 rfl rfl ?_
 unfold K3 Rb
 simp(disch:=omega)only[go_sem,simprocAttr]
 refine ak ?_
 refine D.P (e) ?_
 refine ak ?_
 refine D.r ?_
 refine⟨_,rfl,.aF ?_ rfl,trivial,trivial⟩
 simp only[I.aF,bn5]
theorem Tl (v:bJ):Pure bb4 127 [.agg [.int .i64 v.dG,.int .i64 v.n,.str v.s]] (.bool (Am v)):=by
 obtain⟨gp,fB,b3,af,dG,n,s⟩:=v
 have e:=aT2 s
 have ag: ∃R,R=Am ⟨gp,fB,b3,af,dG,n,s⟩:=⟨_,rfl⟩
 obtain⟨R,ag⟩:=ag
 rw[←ag]
 simp only[Am]at ag
 generalize s.all ea=b at e ag
 refine cw be Tryz.func127 Vd rfl rfl ?_
 unfold Kd Qi
 simp(disch:=omega)only[go_sem,simprocAttr]
 by_cases U:dG=1
 ·subst U
  (repeat' first|refine D.S ?_|refine D.fg true true ?_|refine al.nil ?_|refine ar.c9 ?_|refine D.W ?_|refine D.Z ?_|refine D.G ?_ ?_|refine D.X ‹_› ?_|refine D.ja ‹_› ?_|refine D.jb ‹_› ?_|intro h|refine D.C ?_ ?_)
  all_goals (refine D.R ?_)
  all_goals (refine⟨_,rfl,.aF ?_ rfl,trivial,trivial⟩; rw[ag]; simp_all [I.aF]<;>(try (intros; omega)))
 by_cases aa:dG=2
 rotate_left
 ·(have ae:=U;have z2:=aa;refine dQ ?_;clear ae z2)
  refine D.r ?_
  exact⟨_,rfl,.aF (by rw[ag,if_neg U,if_neg aa]; rfl) rfl,trivial,trivial⟩
 subst aa
 rw[if_neg U,if_pos rfl]at ag
 by_cases aD:n=0
 rotate_left
 ·(have ae:=aD;refine bt ?_;clear ae)
  refine D.r ?_
  exact⟨_,rfl,.aF (by rw[ag]; simp [aD,I.aF]) rfl,trivial,trivial⟩
 by_cases bA:s.length≤40
 rotate_left
 ·have d4: ¬(s.length:Int)≤40:=by omega
  (have ae:=aD;have z2:=d4;refine dQ ?_;clear ae z2)
  refine D.r ?_
  exact⟨_,rfl,.aF (by rw[ag]; simp [bA,I.aF]) rfl,trivial,trivial⟩
 have d4:(s.length:Int)≤40:=by omega
 (have ae:=aD;have z2:=d4;refine dQ ?_;clear ae z2)
 refine D.P (e) ?_
 refine ak ?_
 refine D.r ?_
 exact⟨_,rfl,.aF (by rw[ag]; simp [aD,bA,I.aF]) rfl,trivial,trivial⟩
theorem aT3 (v:bJ):Pure bb4 257 [.agg [.int .i64 v.dG,.int .i64 v.n,.str v.s]] (.int .i64 (zC v)):=by
 obtain⟨gp,fB,b3,af,dG,n,s⟩:=v
 refine cw be Tryz.func257 V7 rfl rfl ?_
 unfold K5 Rd
 simp(disch:=omega)only[go_sem,simprocAttr]
 (repeat' first|refine D.S ?_|refine D.fg true true ?_|refine al.nil ?_|refine ar.c9 ?_|refine D.W ?_|refine D.Z ?_|refine D.G ?_ ?_|refine D.X ‹_› ?_|refine D.ja ‹_› ?_|refine D.jb ‹_› ?_|intro h|refine D.C ?_ ?_)
 all_goals (refine D.R ?_)
 all_goals (refine⟨_,rfl,.aF ?_ rfl,trivial,trivial⟩; simp_all [zC,I.aF]<;>(try omega))
theorem aS1 (v:bJ):Pure bb4 149 [.agg [.int .i64 v.fB,.int .i64 v.b3,.int .i64 v.af],.agg [.int .i64 v.dG,.int .i64 v.n,.str v.s]] (.bool (ve v)):=by
 have ap:=aT3 v
 have ay:=Tp v.fB v.b3 v.af
 have b1:=Tl v
 obtain⟨gp,fB,b3,af,dG,n,s⟩:=v
 have ag: ∃R,R=ve ⟨gp,fB,b3,af,dG,n,s⟩:=⟨_,rfl⟩
 obtain⟨R,ag⟩:=ag
 rw[←ag]
 simp only[ve]at ag
 simp only at ap ay b1
 generalize zC ⟨gp,fB,b3,af,dG,n,s⟩=z at ap ag
 generalize Am ⟨gp,fB,b3,af,dG,n,s⟩=jZ at b1 ag
 generalize nI fB b3 af=il at ay ag
 refine cw be Tryz.func149 Vi rfl rfl ?_
 unfold Ki Qn
 simp(disch:=omega)only[go_sem,simprocAttr]
 refine ak ?_
 refine D.P (ap) ?_
 refine ak ?_
 refine D.P (ay) ?_
 cases il
 ·refine ak ?_
  refine D.r ?_
  exact⟨_,rfl,.aF (by rw[ag]; rfl) rfl,trivial,trivial⟩
 refine ak ?_
 refine D.P (b1) ?_
 cases jZ
 ·refine ak ?_
  refine D.r ?_
  exact⟨_,rfl,.aF (by rw[ag]; rfl) rfl,trivial,trivial⟩
 (repeat' first|refine D.S ?_|refine D.fg true true ?_|refine al.nil ?_|refine ar.c9 ?_|refine D.W ?_|refine D.Z ?_|refine D.G ?_ ?_|refine D.X ‹_› ?_|refine D.ja ‹_› ?_|refine D.jb ‹_› ?_|intro h|refine D.C ?_ ?_)
 all_goals (refine D.R ?_)
 all_goals (refine⟨_,rfl,.aF ?_ rfl,trivial,trivial⟩; rw[ag]; simp_all [I.aF]<;>(try omega))
theorem D.T3 {cY:Program}{anns:List I}{l:List bK}{env:Env}{K:Env→aN→Prop}{Rp:I→aN→Prop}{x:aJ}{T:TypeId}{v:I}{c:aN}(h:Rp (.hW T v) c) (ab:bl env x= .hW T v:=by simp (disch:=omega) only[go_sem,simprocAttr]<;>with_reducible rfl):al cY anns (⟨none,none,.panic x⟩::l) env c K Rp:=al.ax7 rfl ab h
theorem Hz (n:bw) (e:Int):Pure bb4 84 [.bool true,.str n,.int .i64 e] (.c3 []):=by
 refine cw be Tryz.func84 I2 rfl rfl ?_
 unfold El GH
 simp(disch:=omega)only[go_sem,simprocAttr]
 refine ak ?_
 exact D.rx
theorem Hy (n:bw) (e:Int):bg bb4 84 [.bool false,.str n,.int .i64 e] (aN.of 0 0 [] []) (rj (lQ n e)):=by
 refine bg.intro be Tryz.func84 I2 ?_
 unfold El GH
 simp(disch:=omega)only[go_sem,simprocAttr]
 refine ak ?_
 refine D.T3 ?_
 exact rfl
end
end Go.ba.T.N
