/- Part of a proof; own work. -/
import Derived.WalkMore
import Derived.RegionTactic
import Derived.StillTailTactics
import Derived.Test.YtjkbgcgljnldeaaGreatDoorRS6
set_option linter.unusedVariables false
set_option linter.unusedSimpArgs false
set_option maxHeartbeats 4000000
namespace Go.Proofs
open Go.RowKit
set_option maxRecDepth 1000000
theorem aL9 (r:Int) (w:World) (h0:0≤r) (h1:r≤255):Calls Tryz.prog 204 #[.int .i32 r] w fun e w'=>e= .returned (.bool true)∧w'=w:=by
 have d1:r<55296:=by omega
 go_enter Tryz.func204,Tryz.ntmps204
 go_wp2
 go_ret
 exact⟨rfl,rfl⟩
theorem Xp (r:Int) (h0:128≤r) (h1:r≤255): ∃a b:UInt8,Utf8.encode r=⟨⟨[a,b]⟩⟩∧b≠32∧b≠9∧b≠10∧b≠13:=by
 have key: ∀n:Fin 128,∃a b:UInt8,Utf8.encode ((n.val:Int)+128)=⟨⟨[a,b]⟩⟩∧b≠32∧b≠9∧b≠10∧b≠13:=by
  have: ∀n:Fin 128,(Utf8.encode ((n.val:Int)+128)).data.toList=[(Utf8.encode ((n.val:Int)+128)).data.toList.getD 0 0,(Utf8.encode ((n.val:Int)+128)).data.toList.getD 1 0]∧(Utf8.encode ((n.val:Int)+128)).data.toList.getD 1 0≠32∧(Utf8.encode ((n.val:Int)+128)).data.toList.getD 1 0≠9∧(Utf8.encode ((n.val:Int)+128)).data.toList.getD 1 0≠10∧(Utf8.encode ((n.val:Int)+128)).data.toList.getD 1 0≠13:=by decide+kernel
  intro n
  obtain⟨h1,h2⟩:=this n
  exact⟨_,_,ByteArray.ext (Array.ext' h1),h2⟩
 have:=key ⟨(r-128).toNat,by omega⟩
 rw[show (((r-128).toNat:Nat):Int)+128=r by omega]at this
 exact this
theorem ab6 (r:Int) (w:World) (h0:128≤r) (h1:r≤255):Calls Tryz.prog 186 #[.string ⟨⟨[32,9,10,13]⟩⟩,.int .i32 r] w fun e w'=>e= .returned (.int .i64 (-1))∧Below w.heap.size w w':=by
 obtain⟨a,b,he,h2,h3,h4,h5⟩:=Xp r h0 h1
 have d0:(0:Int)≤r:=by omega
 have d1: ¬r<128:=by omega
 have d2: ¬r=65533:=by omega
 go_enter Tryz.func186,Tryz.ntmps186
 go_wp2_with (go_at_call 204; refine (aL9 r _ (by omega) h1).mono ?_; rintro e w' ⟨rfl,hw⟩; rw[hw])
 go_step3
 go_wp2
 refine wp_loop (fun a' w'=>a'= _∧w'=w) (fun _ _=>0) ⟨rfl,rfl⟩ ?_
 rintro a' w1 ⟨rfl,rfl⟩
 have c1: ¬(9:UInt8)=b:=fun e=>h3 e.symm
 go_wp2
 go_step3
 go_wp2
 have hb9:((((⟨⟨[32,9,10,13]⟩⟩:ByteArray)[1]'(by decide)).toNat:Int)!=(((⟨⟨[a,b]⟩⟩:ByteArray)[1]'(by simp [ByteArray.size])).toNat:Int))=true:=by
  show ((9:Int)!=(b.toNat:Int))=true
  have:b.toNat≠9:=fun e=>h3 (UInt8.toNat_inj.1 e)
  simp only[bne_iff_ne,ne_eq]
  omega
 go_region
 go_wp2
 refine wp_region_still_tail 7 (by kernel_rfl) (by kernel_rfl) ?_
 simp only[List.take,List.drop]
 still_step
 still_step
 still_step
 refine wpStill_step (fun K hK=> ?_)
 go_simp
 simp only[show IntKind.i64.wrap 2=2 from by decide]
 rw[if_pos (by decide)]
 simp only[show Int.toNat 2=2 from rfl,true_and]
 refine hK _ ?_
 clear hK K
 still_step
 still_step
 still_step
 refine wpStill_nil ?_
 have hix:Lib.indexByte ((⟨⟨[32,9,10,13]⟩⟩:ByteArray).extract 2 4).data.toList ((((⟨⟨[a,b]⟩⟩:ByteArray)[1]'(by simp [ByteArray.size])).toNat:Int)).toNat.toUInt8= -1:=by
  show Lib.indexByte [10,13] (((b.toNat:Int)).toNat.toUInt8)= -1
  rw[show ((b.toNat:Int)).toNat.toUInt8=b by simp]
  have e1:((10:UInt8)==b)=false:=by simpa using fun e:(10:UInt8)=b=>h4 e.symm
  have e2:((13:UInt8)==b)=false:=by simpa using fun e:(13:UInt8)=b=>h5 e.symm
  simp [Lib.indexByte,e1,e2]
 go_wp2_with (go_at_call 146; refine (Any.strings_IndexByte {Tryz.EI with} _ _ _).mono ?_; rintro e w' ⟨rfl,hw⟩; rw[hw,hix])
 simp (config:={zetaDelta:=true}) only[Exit.noGoto,Exit.inBlock,Exit.then]
 go_ret
 exact⟨rfl,rfl,rfl,rfl,Nat.le_refl _,fun _ _=>rfl⟩
theorem Ww (r:Int) (w:World) (h0:128≤r) (h1:r≤255):Calls Tryz.prog 144 #[.string ⟨⟨[32,9,10,13]⟩⟩,.int .i32 r] w fun e w'=>e= .returned (.bool false)∧Below w.heap.size w w':=by
 go_enter Tryz.func144,Tryz.ntmps144
 go_wp2_with (go_at_call 186; refine (ab6 r _ h0 h1).mono ?_; rintro e w' ⟨rfl,hb⟩)
 go_ret
 exact⟨rfl,hb⟩
end Go.Proofs
namespace Go.bc.T.N
open Go Go.bc Go.Proofs
theorem al1 (r:Int) (h0:128≤r) (h1:r≤255):Pure Tryz.prog 144 [.str [32,9,10,13],.int .i32 r] (.bool false):=by
 refine uH fun m ay hG hv=> ?_
 simp only[aS,aR]at hv
 obtain⟨_,_,rfl,⟨rfl,_⟩,_,_,rfl,rfl,rfl⟩:=hv
 refine (Ww r m.w h0 h1).mono ?_
 rintro e w' ⟨rfl,hb⟩
 exact⟨_,rfl,fun m'=>by simp only[aR],hb⟩
end Go.bc.T.N
namespace Go.bc
def xr (z:Int):Bool:=(decide (97≤z)&&decide (z≤122))||(decide (65≤z)&&decide (z≤90))
def vc (z:Int):Bool:=decide (48≤z)&&decide (z≤57)
def uu (z:Int):Bool:=xr z||(vc z||decide (z=95))
def l1 (c:UInt8):Bool:=xr (c.toNat:Int)
def iY (c:UInt8):Bool:=vc (c.toNat:Int)
def iO (c:UInt8):Bool:=uu (c.toNat:Int)
def mx:List UInt8→Bool
 |[]=>false
 |c::s=>decide ((c::s).length≤16)&&(l1 c&&(c::s).all iO)
def r2:List (List UInt8):=[[97,103,97,105,110],[97,110,100],[97,115],[97,116],[99,97,108,108],[99,104,111,105,99,101],[101,108,115,101],[102,114,111,109],[105,102],[105,110,116],[108,101,110],[108,111,111,112],[109,101,115,115,97,103,101],[111,102],[111,102,102,101,114],[111,110],[111,114],[112,97,114],[112,108,97,121,115],[112,114,111,116,111,99,111,108],[115,101,114,118,105,99,101],[116,101,120,116],[116,105,109,101,115],[116,111],[118,97,114],[119,104,101,114,101],[119,104,105,108,101],[119,105,116,104,105,110]]
def db (s:List UInt8):Bool:=mx s&& !(r2.contains s)
def s0 (l:List (List UInt8)) (s:List UInt8):Nat→Nat→Int
 |0,_=> -1
 |k+1,i=>match l[i]? with
  |some x=>if s=x then (i:Int) else s0 l s k (i+1)
  |none=> -1
theorem Mk (l:List (List UInt8)) (s:List UInt8): ∀(k i:Nat),i+k=l.length→(decide (0≤s0 l s k i))=(l.drop i).contains s
 |0,i,h=>by
  rw[List.drop_eq_nil_of_le (by omega)]
  simp [s0]
 |k+1,i,h=>by
  have hlt:i<l.length:=by omega
  have e:=List.getElem?_eq_getElem hlt
  rw[List.drop_eq_getElem_cons hlt]
  simp only[s0,e,List.contains_cons]
  by_cases ap:s=l[i]
  ·rw[if_pos ap]
   simp [ap]
  ·rw[if_neg ap,Mk l s k (i+1) (by omega)]
   have:(s==l[i])=false:=by simpa using ap
   rw[this,Bool.false_or]
end Go.bc
namespace Go.bc
open Go
structure ba where
 kind:Int
 text:List UInt8
 val:Int
 vj:Int
def ba.row (t:ba):List I:=[.int .i64 t.kind,.str t.text,.int .i64 t.val,.int .i64 t.vj]
inductive dL (α:Type) where
 |ok (a:α) (r:List ba)
 |err (p e:Int)
 |out
def dL.bind {α β:Type}:dL α→(α→List ba→dL β)→dL β
 | .ok a r,f=>f a r
 | .err p e,_=> .err p e
 | .out,_=> .out
def eQ (s:List UInt8):List ba→Bool
 |[]=>false
 |t:: _=>decide (t.text=s)&&(decide (t.kind=4)||decide (t.kind=1))
def qN (k:Int):List ba→Bool
 |[]=>false
 |t:: _=>decide (t.kind=k)
def nP:List ba→Bool
 |[]=>false
 |t:: _=>decide (t.kind=1)&&db t.text
def yD (en:Int):List ba→Int
 |[]=>en
 |t:: _=>t.vj
section
variable (en:Int)
def gm (s:List UInt8) (l:List ba):dL Unit:=if eQ s l=true then .ok () l.tail else .err (yD en l) 3
def jN (k:Int):List ba→dL ba
 |[]=> .err en 3
 |t::r=>if t.kind=k then .ok t r else .err t.vj 3
def jO (l:List ba):dL (List UInt8):=if nP l=true then (jN en 1 l).bind fun t r=> .ok t.text r else .err (yD en l) 3
def l6:Nat→List UInt8→List ba→dL (List UInt8)
 |0,_,_=> .out
 |n+1,s,l=>if eQ [46] l=true then (jO en l.tail).bind fun w r=>l6 n (s++([46]++w)) r else .ok s l
def nU (n:Nat) (l:List ba):dL (List UInt8):=(jO en l).bind fun w r=>l6 en n w r
def mD (l:List ba):dL Int:=if eQ [45] l=true then (jN en 2 l.tail).bind fun t r=> .ok (IntKind.i64.wrap (0-t.val)) r else (jN en 2 l).bind fun t r=> .ok t.val r
def cV (s:List UInt8):Int:=
 if s=[124,124] then 1 else if s=[38,38] then 2 else if s=[61,61] then 3 else if s=[33,61] then 3
 else if s=[60] then 4 else if s=[60,61] then 4 else if s=[62] then 4 else if s=[62,61] then 4
 else if s=[43] then 5 else if s=[45] then 5 else if s=[42] then 6 else if s=[47] then 6 else if s=[37] then 6 else 0
theorem uG (s:List UInt8):0≤cV s∧cV s≤6:=by
 have key: ∀(c:Prop) [Decidable c] (a b:Int),(0≤a∧a≤6)→(0≤b∧b≤6)→0≤(if c then a else b)∧(if c then a else b)≤6:=by
  intro c _ a b h1 h2
  split
  ·exact h1
  ·exact h2
 unfold cV
 repeat' (refine key _ _ _ (by decide) ?_)
 decide
def u7:List ba→Bool
 |[]=>false
 |t:: _=>decide (t.kind=2)&&decide (1000<t.val)
def u6:List ba→Bool
 |[]=>false
 |t:: _=>decide (t.kind=2)&&(decide (t.val<1)||decide (50<t.val))
mutual
def ht:Nat→List ba→dL ad
 |0,_=> .out
 |n+1,l=>
  if eQ [40] l=true then (gY n 1 l.tail).bind fun x r=>(gm en [41] r).bind fun _ r=> .ok x r
  else if eQ [108,101,110] l=true then (gm en [40] l.tail).bind fun _ r=>(gY n 1 r).bind fun x r=>(gm en [41] r).bind fun _ r=> .ok (.mk 4 [] [] [] 0 [x]) r
  else if eQ [45] l=true then (ht n l.tail).bind fun x r=> .ok (.mk 5 [45] [] [] 0 [x]) r
  else if eQ [33] l=true then (ht n l.tail).bind fun x r=> .ok (.mk 5 [33] [] [] 0 [x]) r
  else if nP l=true then (jO en l).bind fun w r=> .ok (.mk 3 [] w [] 0 []) r
  else if qN 3 l=true then (jN en 3 l).bind fun t r=> .ok (.mk 2 [] [] t.text 0 []) r
  else if u7 l=true then .err (yD en l) 2
  else (jN en 2 l).bind fun t r=> .ok (.mk 1 [] [] [] t.val []) r
def gY:Nat→Int→List ba→dL ad
 |0,_,_=> .out
 |n+1,k,l=>(ht n l).bind fun x r=>jw n k x r
def jw:Nat→Int→ad→List ba→dL ad
 |0,_,_,_=> .out
 |n+1,k,x,l=>match l with
  |[]=> .ok x []
  |t::r=>if t.kind=4 then (if cV t.text<k then .ok x (t::r) else (gY n (cV t.text+1) r).bind fun y r=>jw n k (.mk 6 t.text [] [] 0 [x,y]) r) else .ok x (t::r)
end
mutual
def iP:Nat→List ba→dL (List ac)
 |0,_=> .out
 |n+1,l=>(gm en [123] l).bind fun _ r=>jK n [] r
def jK:Nat→List ac→List ba→dL (List ac)
 |0,_,_=> .out
 |n+1,acc,l=>if eQ [125] l=true then .ok acc l.tail else (je n l).bind fun x r=>jK n (acc++[x]) r
def je:Nat→List ba→dL ac
 |0,_=> .out
 |n+1,l=>if eQ [105,102] l=true then iQ n l.tail
  else if eQ [119,104,105,108,101] l=true then (gY en n 1 l.tail).bind fun x r=>(gm en [116,105,109,101,115] r).bind fun _ r=>
   if u6 r=true then .err (yD en r) 2 else (jN en 2 r).bind fun t r=>(iP n r).bind fun b r=> .ok (.mk 3 [] x t.val b []) r
  else (jO en l).bind fun w r=>(gm en [61] r).bind fun _ r=>(gY en n 1 r).bind fun x r=>(gm en [59] r).bind fun _ r=> .ok (.mk 1 w x 0 [] []) r
def iQ:Nat→List ba→dL ac
 |0,_=> .out
 |n+1,l=>(gY en n 1 l).bind fun x r=>(iP n r).bind fun b r=>
  if eQ [101,108,115,101] r=true then
   (if eQ [105,102] r.tail=true then (iQ n r.tail.tail).bind fun y r=> .ok (.mk 2 [] x 0 b [y]) r
   else (iP n r.tail).bind fun c r=> .ok (.mk 2 [] x 0 b c) r)
  else .ok (.mk 2 [] x 0 b []) r
end
def r8 (l:List ba):dL (Int×Int×Int):=
 if eQ [116,101,120,116] l=true then (jN en 2 l.tail).bind fun a r=>(gm en [46,46] r).bind fun _ r=>(jN en 2 r).bind fun b r=> .ok (2,a.val,b.val) r
 else (gm en [105,110,116] l).bind fun _ r=>(mD en r).bind fun a r=>(gm en [46,46] r).bind fun _ r=>(mD en r).bind fun b r=> .ok (1,a,b) r
def r7 (l:List ba):dL (Int×Int×List UInt8):=
 if qN 3 l=true then (jN en 3 l).bind fun t r=> .ok (2,0,t.text) r else (mD en l).bind fun v r=> .ok (1,v,[]) r
def qW (l:List ba):dL cb:=
 (jO en l).bind fun w r=>(gm en [58] r).bind fun _ r=>(r8 en r).bind fun s r=>(gm en [61] r).bind fun _ r=>(r7 en r).bind fun i r=>(gm en [59] r).bind fun _ r=>
  .ok ⟨w,s.1,s.2.1,s.2.2,i.1,i.2.1,i.2.2⟩ r
def lm:Nat→List (List UInt8)→List ba→dL (List (List UInt8))
 |0,_,_=> .out
 |n+1,acc,l=>if eQ [44] l=true then (jO en l.tail).bind fun w r=>lm n (acc++[w]) r else .ok acc l
def nn (n:Nat) (l:List ba):dL (List (List UInt8)):=
 if eQ [41] l=true then .ok [] l.tail else (jO en l).bind fun w r=>(lm en n [w] r).bind fun ps r=>(gm en [41] r).bind fun _ r=> .ok ps r
def nk (n:Nat) (l:List ba):dL cd:=
 (nU en n l).bind fun m r=>(gm en [40] r).bind fun _ r=>(nn en n r).bind fun ps r=>(gm en [102,114,111,109] r).bind fun _ r=>(jO en r).bind fun p r=>(iP en n r).bind fun b r=> .ok ⟨m,p,ps,b⟩ r
def ll:Nat→List ad→List ba→dL (List ad)
 |0,_,_=> .out
 |n+1,acc,l=>if eQ [44] l=true then (gY en n 1 l.tail).bind fun x r=>ll n (acc++[x]) r else .ok acc l
def nj (n:Nat) (l:List ba):dL (List ad):=
 if eQ [41] l=true then .ok [] l.tail else (gY en n 1 l).bind fun x r=>(ll en n [x] r).bind fun xs r=>(gm en [41] r).bind fun _ r=> .ok xs r
def ox (n:Nat) (l:List ba):dL (List ad):=
 if eQ [119,104,101,114,101] l=true then (gY en n 1 l.tail).bind fun x r=> .ok [x] r else .ok [] l
def nl (n:Nat) (l:List ba):dL ca:=
 (nU en n l).bind fun m r=>(gm en [40] r).bind fun _ r=>(nj en n r).bind fun xs r=>(gm en [116,111] r).bind fun _ r=>(jO en r).bind fun p r=>(ox en n r).bind fun w r=>(gm en [59] r).bind fun _ r=> .ok ⟨m,p,xs,w⟩ r
def lp (n:Nat):Nat→List cb→List ba→dL (List cb)
 |0,_,_=> .out
 |m+1,acc,l=>if eQ [118,97,114] l=true then (qW en l.tail).bind fun v r=>lp n m (acc++[v]) r else .ok acc l
def ln (n:Nat):Nat→List cd→List ca→List ba→dL (List cd×List ca)
 |0,_,_,_=> .out
 |m+1,ap,os,l=>if eQ [125] l=true then .ok (ap,os) l.tail
  else if eQ [111,110] l=true then (nk en n l.tail).bind fun h r=>ln n m (ap++[h]) os r
  else (gm en [111,102,102,101,114] l).bind fun _ r=>(nl en n r).bind fun o r=>ln n m ap (os++[o]) r
def lo (n:Nat) (l:List ba):dL e9:=
 (gm en [115,101,114,118,105,99,101] l).bind fun _ r=>(jO en r).bind fun a r=>(gm en [112,108,97,121,115] r).bind fun _ r=>(jO en r).bind fun b r=>(gm en [111,102] r).bind fun _ r=>(jO en r).bind fun c r=>(gm en [123] r).bind fun _ r=>
  (lp en n n [] r).bind fun ay r=>(ln en n n [] [] r).bind fun p r=>match r with
   |[]=> .ok ⟨a,b,c,ay,p.1,p.2⟩ []
   |t:: _=> .err t.vj 3
end
def og (p e:Int):I:= .gW 79 (.agg [.int .i64 p,.int .i64 e])
def fz (l:List ba) (en:Int):List I:=[.ay 4 (l.map ba.row),.int .i64 en]
abbrev ps (l:List ba) (en:Int):a1:=a1.of 1 0 [(0,83,fz l en)] []
def k7 {α:Type}(f:α→I) (en:Int):dL α→Out→a1→Prop
 | .ok a l=>fJ (f a) [(0,83,fz l en)] []
 | .err p e=>uZ (og p e)
 | .out=>fun _ _=>False
end Go.bc
