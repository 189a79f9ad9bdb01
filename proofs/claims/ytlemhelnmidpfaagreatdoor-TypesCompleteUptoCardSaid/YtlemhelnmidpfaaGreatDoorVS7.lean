/- Part of a proof; own work. -/
import Derived.WalkMore
import Derived.RegionTactic
import Derived.StillTailTactics
import Derived.Laws.IdiomCopy
import Derived.Laws.Alloc2
import Derived.Laws.NewBlocks
import Derived.Laws.MakeOwn
import Derived.Deep.LoopGhost
import Derived.Test.YtlemhelnmidpfaaGreatDoorVS6
set_option linter.unusedVariables false
set_option linter.unusedSimpArgs false
set_option maxHeartbeats 4000000
open List renaming replicate→aU2,replicate_succ→ba3,length_replicate→aX8,getElem?_toArray→bd7,getElem?_replicate→bb5,mem_replicate→bk1,length_map→aT1,length_drop→bd3,length_cons→aT3,length_take→aX3,length_append→aT2,length_nil→aU1
open Nat renaming le_refl→aT4,reduceBEq→bd1,le_of_ble_eq_true→aZ3,reduceAdd→bd2
open Go.Proofs.Tryz renaming prog→aS9
namespace Go.Proofs
open Go.RowKit
set_option maxRecDepth 1000000
theorem Co (n:Int) (h0:0≤n) (h1:n≤200):bits BinOp.and IntKind.u64 n 4294967295=n:=by
 have key: ∀n:Fin 201,bits BinOp.and IntKind.u64 (n.val:Int) 4294967295=(n.val:Int):=by decide
 have:=key ⟨n.toNat,by omega⟩
 rw[show ((n.toNat:Nat):Int)=n by omega]at this
 exact this
theorem Z6 (n:Int) (w:World) (h0:0≤n) (h1:n≤200):Calls aS9 382 #[.int .u64 1,.int .u64 n] w fun e w'=>e= .returned (.tuple #[.int .u64 0,.int .u64 n])∧w'=w:=by
 go_enter Tryz.func382,Tryz.ntmps382
 have e1:=Co n h0 h1
 have e2:=Co 1 (by decide) (by decide)
 have da:=Co 0 (by decide) (by decide)
 have bD:n/4294967296=0:=by omega
 go_wp2
 go_ret2
 exact⟨rfl,rfl⟩
theorem Z5 (n:Int) (w:World) (h0:0≤n) (h1:n≤200):Calls aS9 340 #[.int .u64 1,.int .u64 n] w fun e w'=>e= .returned (.tuple #[.int .u64 0,.int .u64 n])∧w'=w:=by
 go_enter Tryz.func340,Tryz.ntmps340
 go_wp2_with (go_at_call 382; refine (Z6 n _ h0 h1).mono ?_; rintro e w' ⟨rfl,hw⟩; rw[hw])
 go_ret2
 exact⟨rfl,rfl⟩
def cs (n k:Nat):Array Value:=⟨aU2 k (.int .i64 (-1))++aU2 (n-k) (.int .i64 0)⟩
theorem H3 {n k:Nat}(h:k≤n):(cs n k).size=n:=by simp [cs]; omega
theorem UR {n k:Nat}(h:k<n):(cs n k).setIfInBounds k (.int .i64 (-1))=cs n (k+1):=by
 apply Array.ext'
 simp only[cs,Array.toList_setIfInBounds]
 rw[show n-k=(n-(k+1))+1 by omega,ba3,List.set_append_right _ _ (by simp),aX8,Nat.sub_self,List.set_cons_zero,List.replicate_succ',List.append_assoc,List.singleton_append]
theorem Ql (w:World) (t n:Nat): ∀(j k:Nat),k+j≤n→(w.alloc (.cells (cs n k) t)).setCells w.heap.size k (aU2 j (.int .i64 (-1)))=w.alloc (.cells (cs n (k+j)) t)
 |0,k,_=>rfl
 |j+1,k,h=>by
  rw[ba3,World.setCells,World.setCell_alloc_new,UR (by omega),Ql w t n j (k+1) (by omega),show k+1+j=k+(j+1) by omega]
theorem UQ {n k j:Nat}(h:j<k):(cs n k)[j]? =some (.int .i64 (-1)):=by
 simp only[cs,bd7]
 rw[List.getElem?_append_left (by simpa using h),bb5,if_pos h]
theorem UP {n k j:Nat}(h:j<n) (hk:k≤n):((cs n k)[j]?).isSome=true:=by
 have:=H3 hk
 simp [this,h]
theorem i3: ∃i,Tryz.prog.info? 3=some i∧i.size=1∧i.bytes=8∧i.zero=some (.int .i64 0):=by
 have h:(Tryz.prog.info? 3).map (fun i=>(i.size,i.bytes,i.zero))=some (1,8,some (.int .i64 0)):=by kernel_rfl
 cases ae:Tryz.prog.info? 3 with
 |none=>rw[ae]at h; cases h
 |some i=>
  rw[ae]at h
  simp only[Option.map_some,Option.some.injEq,Prod.mk.injEq]at h
  exact⟨i,rfl,h.1,h.2.1,h.2.2⟩
theorem Z2 (w:World) (n:Nat) (h:n≤200):(Instr.makeSlice 60 (.int .i64 (n:Int)) (.int .i64 (n:Int))).run aS9 w= .ok (.slice (some ⟨w.heap.size,0,none⟩) n n) (w.alloc (.cells (cs n 0) 3)):=by
 obtain⟨i,h1,h2,h3,h4⟩:=i3
 have:=run_makeSlice (P:=aS9) w 60 3 i (.int .i64 0) (by kernel_rfl) h1 h4 .i64 .i64 n n (by omega) (Int.le_refl _) (by rw[h2]; omega) (by rw[h3]; omega) (by omega)
 rw[this,h2]
 simp only[Int.toNat_natCast,Nat.mul_one]
 congr 3
 apply Array.ext_getElem?
 intro i
 simp only[madeCells,cs,Value.cells,Nat.sub_zero,List.replicate_zero,List.nil_append,bd7,bb5,Array.getElem?_map,Array.getElem?_range]
 split
 ·simp_all [Nat.mod_one]
 ·simp_all
theorem aI7 (w:World){ops:Array Oper}{rest:List Oper}{o:Oper}{a:Act}{Q:Exit→Act→World→Prop}(hg:o.guard=none) (d s:Operand) (t t':TypeId)
  (ho:o.op= .call {callee:= .builtin .copy,args:= #[d,s],argTypes:= #[t,t']}) (v u:Value) (hd:a.eval d=v) (an:a.eval s=u){v':Value}{w':World}
  (ab:(Builtin.copy_ #[t,t'] o.type #[v,u]).run aS9 w= .ok v' w') (h:wpList aS9 ops Q rest (a.put o.dst v') w'):wpList aS9 ops Q (o::rest) a w:=by
 refine wpList_plain hg fun K hK=> ?_
 simp only[Oper.wp,execOp,ho,resolve,invoke,builtin,Sem.run_bind,Sem.run_pure,Result.andThen_ok,List.map_toArray,List.map_cons,List.map_nil,hd,an,ab]
 exact hK _ _ h
theorem HV (w:World) (n k j fV sc:Nat) (a:Addr) (h:k+j≤n) (hj:j=min fV (n-k)) (an: ∀i,i<j→(w.alloc (.cells (cs n k) 3)).cell? (a.add i)=some (.int .i64 (-1))):(Builtin.copy_ #[60,60] 3 #[.slice (some ⟨w.heap.size,k,none⟩) (n-k) (n-k),.slice (some a) fV sc]).run aS9 (w.alloc (.cells (cs n k) 3))= .ok (goInt j) (w.alloc (.cells (cs n (k+j)) 3)):=by
 have e:(aU2 j (Value.int .i64 (-1))).length=j:=aX8
 have:=run_copy_cells (P:=aS9) (w.alloc (.cells (cs n k) 3)) 60 60 3 3 w.heap.size k (n-k) (n-k) a fV sc (aU2 j (.int .i64 (-1))) (by kernel_rfl) (by kernel_rfl) (by rw[e,hj])
  (fun i v hv=>by
   rw[bb5]at hv
   split at hv
   ·cases hv; exact an i (by assumption)
   ·cases hv)
  (fun i ae=>by rw[e]at ae; rw[World.cell?_alloc_at _ _ _ _ rfl]; exact UP (by omega) (by omega))
  (fun i ae=>by exact World.frozen?_alloc_new w (cs n k) 3 (k+i)) (fun v hv=>by rw[bk1]at hv; rw[hv.2]; rfl)
 rw[this,e,Ql w 3 n j k h]
theorem AD:Tryz.prog.elem 60=3:=by kernel_rfl
theorem Qo (W:World):(sizeOf 3).run aS9 W= .ok 1 W:=by
 obtain⟨i,h1,h2,h3,h4⟩:=i3
 simp [sizeOf,typeInfo,h1,h2]
theorem at4 (W:World) (b:Nat){n k:Nat}(h:k<n):(Instr.slice 60 (.slice (some ⟨b,0,none⟩) n n) (some (.int .i64 (k:Int))) none none).run aS9 W= .ok (.slice (some ⟨b,k,none⟩) (n-k) (n-k)) W:=by
 rw[run_slice_l W 60 _ _ _ (by rw[AD]; kernel_rfl) .i64 _ (by omega) (by omega),AD,Qo]
 have h1: ¬n=k:=by omega
 by_cases h2:k=0
 ·subst h2; simp [Result.andThen,sliced,Addr.add,h1]
 ·simp [Result.andThen,sliced,Addr.add,h1,h2]
theorem at3 (W:World) (b:Nat){n k:Nat}(h0:0<n) (h:k≤n):(Instr.slice 60 (.slice (some ⟨b,0,none⟩) n n) none (some (.int .i64 (k:Int))) none).run aS9 W= .ok (.slice (some ⟨b,0,none⟩) k n) W:=by
 rw[run_slice_h W 60 _ _ _ (by rw[AD]; kernel_rfl) .i64 _ (by omega) (by omega),AD,Qo]
 have h1: ¬n=0:=by omega
 simp [Result.andThen,sliced,Addr.add,h1]
theorem ao0 (a:Addr) (c:Nat) (n:Nat) (w:World) (h0:1≤n) (h1:n≤200) (hc:w.cell? a=some (.int .i64 (-1))) (aL:a.block<w.heap.size):Calls aS9 260 #[.slice (some a) 1 c,.int .i64 n] w fun e w'=>e= .returned (.slice (some ⟨w.heap.size,0,none⟩) n n)∧∃d,w'=({w with drawn:=d}:World).alloc (.cells (cs n n) 3):=by
 have d0: ¬(n:Int)<0:=by omega
 have d1: ¬(9223372036854775807:Int)<n:=by omega
 have hm:=Z2 w n h1
 have hcp:=HV w n 0 1 1 c a (by omega) (by omega) (fun i ae=>by
  have:i=0:=by omega
  subst this
  rw[show a.add 0=a from by unfold Addr.add; split<;>simp_all,World.cell?_alloc_lt _ _ _ aL]
  exact hc)
 rw[Nat.sub_zero,show goInt ((1:Nat):Int)= .int .i64 1 from rfl]at hcp
 go_enter Tryz.func260,Tryz.ntmps260
 have w1:IntKind.u64.wrap (n:Int)=n:=by rw[IntKind.wrap_u64]; omega
 go_wp2_with (first|(go_at_call 340; refine (Z5 n _ (by omega) (by omega)).mono ?_; rintro e w' ⟨rfl,hw⟩; rw[hw])|(at_builtin; refine aI7 _ rfl _ _ 60 60 rfl _ _ rfl rfl hcp ?_))
 clear hcp hm
 go_loopg [8] n (fun g s8 wr=> ∃(k:Nat) (d:Nat),s8= .int .i64 (k:Int)∧1≤k∧k≤n∧n-k≤g∧wr=({w with drawn:=d}:World).alloc (.cells (cs n k) 3))
 case atStart=>exact⟨1,w.drawn,rfl,aT4 _,h0,by omega,rfl⟩
 case round=>
  obtain⟨k,d,rfl,hk1,hkn,hg,rfl⟩:=hrel
  by_cases hlt:k<n
  ·have d2:(k:Int)<(n:Int):=by omega
   have hsl1: ∀W,(Instr.slice 60 (.slice (some ⟨w.heap.size,0,none⟩) n n) (some (.int .i64 (k:Int))) none none).run aS9 W= .ok (.slice (some ⟨w.heap.size,k,none⟩) (n-k) (n-k)) W:=fun W=>at4 W _ hlt
   have hsl2: ∀W,(Instr.slice 60 (.slice (some ⟨w.heap.size,0,none⟩) n n) none (some (.int .i64 (k:Int))) none).run aS9 W= .ok (.slice (some ⟨w.heap.size,0,none⟩) k n) W:=fun W=>at3 W _ (by omega) hkn
   have hcp:=HV {w with drawn:=d+1} n k (min k (n-k)) k n ⟨w.heap.size,0,none⟩ (by omega) rfl (fun i ae=>by
    rw[show (⟨w.heap.size,0,none⟩:Addr).add i=⟨w.heap.size,i,none⟩ from by unfold Addr.add; split<;>simp_all,World.cell?_alloc_at _ _ _ _ rfl]
    exact UQ (by omega))
   generalize hj:min k (n-k)=j at hcp
   have hjb:1≤j∧k+j≤n:=by omega
   clear hj
   have hcp2:(Builtin.copy_ #[60,60] 3 #[.slice (some ⟨w.heap.size,k,none⟩) (n-k) (n-k),.slice (some ⟨w.heap.size,0,none⟩) k n]).run aS9 (({w with drawn:=d}:World).alloc (.cells (cs n k) 3)).drew= .ok (.int .i64 (j:Int)) (({w with drawn:=d+1}:World).alloc (.cells (cs n (k+j)) 3)):=hcp
   clear hcp
   go_wp2
   go_region
   go_wp2
   go_roundg (n-(k+j))
   case measure=>omega
   case rel=>exact⟨k+j,d+1,by rw[Int.natCast_add],by omega,by omega,aT4 _,rfl⟩
  ·obtain rfl:k=n:=by omega
   have d2: ¬(k:Int)<(k:Int):=by omega
   go_wp2
   go_ret
   exact⟨rfl,d,rfl⟩
end Go.Proofs
namespace Go.aX.T.N
open Go Go.aX Go.Proofs
theorem Qg (m:Mem): ∀n:Nat,aM m (aU2 n (.int .i64 (-1))) (aU2 n (Value.int .i64 (-1)))
 |0=>rfl
 |n+1=>by
  simp only[ba3,aM,aK]
  exact⟨_,_,rfl,rfl,Qg m n⟩
theorem H2 (n:Nat):((cs n n).toList.take ((aU2 n [I.int .i64 (-1)]).length*1))=aU2 n (Value.int .i64 (-1)):=by
 simp [cs]
theorem ao1 (n:Nat):(aU2 n [I.int IntKind.i64 (-1)]).flatten=aU2 n (.int .i64 (-1)):=by
 simp [List.flatten_replicate_singleton]
theorem af7 (n:Nat) (h0:1≤n) (h1:n≤200):zU aS9 260 [.ak 1 [[.int .i64 (-1)]],.int .i64 (n:Int)] 3 1 (aU2 n [.int .i64 (-1)]):=by
 intro H m ak hH rh hv
 subst hH
 simp only[aM,aK]at hv
 obtain⟨v,vs1,rfl,⟨a,len,cap,rfl,hl,⟨hc1,hc2⟩,ab⟩,_,_,rfl,rfl,rfl⟩:=hv
 rcases ab with ab|⟨b,o,rfl,ab⟩
 ·cases ab
 simp only[dy,ez,aK]at ab
 obtain⟨_,⟨⟨_,hcell,_,hst,rfl⟩,_⟩,_⟩:=ab
 simp only[aT3,aU1]at hl
 subst hl
 refine (ao0 ⟨b,o,none⟩ cap n m.w h0 h1 hcell hst.lt).mono ?_
 rintro e w' ⟨rfl,d,rfl⟩
 have h3:aM m (aU2 n [I.int IntKind.i64 (-1)]).flatten ((cs n n).toList.take ((aU2 n [I.int .i64 (-1)]).length*1)):=by
  rw[H2,ao1]
  exact Qg m n
 have h4: ∀v∈(cs n n).toList.take ((aU2 n [I.int .i64 (-1)]).length*1),v.oneCell'=true:=fun v hv=>by
  rw[H2,bk1]at hv
  rw[hv.2]
  rfl
 obtain⟨b5,cA,dh⟩:=Bl rh (w':=({m.w with drawn:=d}:World).alloc (.cells (cs n n) 3)) (T:=3) (size:=1) (cap:=n) (rows:=aU2 n [.int .i64 (-1)]) (cur:=cs n n) rfl rfl rfl (by simp)
  (fun b hb=>oL _ _ b hb) (sx _ _) h3 h4 (fun r ab=>by rw[bk1]at ab; rw[ab.2]; rfl) (by rw[H3 (aT4 n)]; omega) (by simp) (by unfold maxLen; omega) (by decide)
 simp only[aX8]at b5 cA dh
 exact⟨.ret (.cz m.T 0),_,_,_,b5,cA,⟨_,rfl,dh⟩,m.T,qL rh,rfl,rfl⟩
end Go.aX.T.N
namespace Go.aX
def Be (z:Int):Bool:=(decide (97≤z)&&decide (z≤122))||(decide (65≤z)&&decide (z≤90))
def C5 (z:Int):Bool:=decide (48≤z)&&decide (z≤57)
def Bb (z:Int):Bool:=Be z||(C5 z||decide (z=95))
def yO (c:UInt8):Bool:=Be (c.toNat:Int)
def wU (c:UInt8):Bool:=Bb (c.toNat:Int)
def yE:List UInt8→Bool
 |[]=>false
 |c::s=>decide ((c::s).length≤16)&&(yO c&&(c::s).all wU)
def vj:List (List UInt8):=[[97,103,97,105,110],[97,110,100],[97,115],[97,116],[99,97,108,108],[99,104,111,105,99,101],[101,108,115,101],[102,114,111,109],[105,102],[105,110,116],[108,101,110],[108,111,111,112],[109,101,115,115,97,103,101],[111,102],[111,102,102,101,114],[111,110],[111,114],[112,97,114],[112,108,97,121,115],[112,114,111,116,111,99,111,108],[115,101,114,118,105,99,101],[116,101,120,116],[116,105,109,101,115],[116,111],[118,97,114],[119,104,101,114,101],[119,104,105,108,101],[119,105,116,104,105,110]]
def gC (s:List UInt8):Bool:=yE s&& !(vj.contains s)
def og (l:List (List UInt8)) (s:List UInt8):Nat→Nat→Int
 |0,_=> -1
 |k+1,i=>match l[i]? with
  |some x=>if s=x then (i:Int) else og l s k (i+1)
  |none=> -1
theorem Ep (l:List (List UInt8)) (s:List UInt8): ∀(k i:Nat),i+k=l.length→(decide (0≤og l s k i))=(l.drop i).contains s
 |0,i,h=>by
  rw[List.drop_eq_nil_of_le (by omega)]
  simp [og]
 |k+1,i,h=>by
  have hlt:i<l.length:=by omega
  have e:=List.getElem?_eq_getElem hlt
  rw[List.drop_eq_getElem_cons hlt]
  simp only[og,e,List.contains_cons]
  by_cases an:s=l[i]
  ·rw[if_pos an]
   simp [an]
  ·rw[if_neg an,Ep l s k (i+1) (by omega)]
   have:(s==l[i])=false:=by simpa using an
   rw[this,Bool.false_or]
end Go.aX
