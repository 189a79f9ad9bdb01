/- Part of a proof; own work. -/
import Derived.WalkMore
import Derived.RegionTactic
import Derived.StillTailTactics
import Derived.Test.YtjkbgcgljnldeaaGreatDoorPS9
namespace Go.Proofs
open Go.RowKit
set_option maxRecDepth 1000000
set_option maxHeartbeats 4000000
theorem vr204 (r : Int) (w : World) (h0 : 0 ≤ r) (h1 : r ≤ 255) : Calls Tryz.prog 204 #[.int .i32 r] w fun e w' => e = .returned (.bool true) ∧ w' = w := by
 have d1 : r < 55296 := by omega
 go_enter Tryz.func204, Tryz.ntmps204
 go_wp2
 go_ret
 exact ⟨rfl, rfl⟩
theorem enc2 (r : Int) (h0 : 128 ≤ r) (h1 : r ≤ 255) : ∃ a b : UInt8, Utf8.encode r = ⟨⟨[a, b]⟩⟩ ∧ b ≠ 32 ∧ b ≠ 9 ∧ b ≠ 10 ∧ b ≠ 13 := by
 have key : ∀ n : Fin 128, ∃ a b : UInt8, Utf8.encode ((n.val : Int) + 128) = ⟨⟨[a, b]⟩⟩ ∧ b ≠ 32 ∧ b ≠ 9 ∧ b ≠ 10 ∧ b ≠ 13 := by
  have : ∀ n : Fin 128, (Utf8.encode ((n.val : Int) + 128)).data.toList = [(Utf8.encode ((n.val : Int) + 128)).data.toList.getD 0 0, (Utf8.encode ((n.val : Int) + 128)).data.toList.getD 1 0] ∧ (Utf8.encode ((n.val : Int) + 128)).data.toList.getD 1 0 ≠ 32 ∧ (Utf8.encode ((n.val : Int) + 128)).data.toList.getD 1 0 ≠ 9 ∧ (Utf8.encode ((n.val : Int) + 128)).data.toList.getD 1 0 ≠ 10 ∧ (Utf8.encode ((n.val : Int) + 128)).data.toList.getD 1 0 ≠ 13 := by decide +kernel
  intro n
  obtain ⟨h1, h2⟩ := this n
  exact ⟨_, _, ByteArray.ext (Array.ext' h1), h2⟩
 have := key ⟨(r - 128).toNat, by omega⟩
 rw [show (((r - 128).toNat : Nat) : Int) + 128 = r by omega] at this
 exact this
theorem ir186 (r : Int) (w : World) (h0 : 128 ≤ r) (h1 : r ≤ 255) : Calls Tryz.prog 186 #[.string ⟨⟨[32, 9, 10, 13]⟩⟩, .int .i32 r] w fun e w' => e = .returned (.int .i64 (-1)) ∧ Below w.heap.size w w' := by
 obtain ⟨a, b, he, h2, h3, h4, h5⟩ := enc2 r h0 h1
 have d0 : (0 : Int) ≤ r := by omega
 have d1 : ¬ r < 128 := by omega
 have d2 : ¬ r = 65533 := by omega
 go_enter Tryz.func186, Tryz.ntmps186
 go_wp2_with (go_at_call 204; refine (vr204 r _ (by omega) h1).mono ?_; rintro e w' ⟨rfl, hw⟩; rw [hw])
 go_step3
 go_wp2
 refine wp_loop (fun a' w' => a' = _ ∧ w' = w) (fun _ _ => 0) ⟨rfl, rfl⟩ ?_
 rintro a' w1 ⟨rfl, rfl⟩
 have c1 : ¬ (9 : UInt8) = b := fun e => h3 e.symm
 go_wp2
 go_step3
 go_wp2
 have hb9 : ((((⟨⟨[32, 9, 10, 13]⟩⟩ : ByteArray)[1]'(by decide)).toNat : Int) != (((⟨⟨[a, b]⟩⟩ : ByteArray)[1]'(by simp [ByteArray.size])).toNat : Int)) = true := by
  show ((9 : Int) != (b.toNat : Int)) = true
  have : b.toNat ≠ 9 := fun e => h3 (UInt8.toNat_inj.1 e)
  simp only [bne_iff_ne, ne_eq]
  omega
 go_region
 go_wp2
 refine wp_region_still_tail 7 (by kernel_rfl) (by kernel_rfl) ?_
 simp only [List.take, List.drop]
 still_step
 still_step
 still_step
 refine wpStill_step (fun K hK => ?_)
 go_simp
 simp only [show IntKind.i64.wrap 2 = 2 from by decide]
 rw [if_pos (by decide)]
 simp only [show Int.toNat 2 = 2 from rfl, true_and]
 refine hK _ ?_
 clear hK K
 still_step
 still_step
 still_step
 refine wpStill_nil ?_
 have hix : Lib.indexByte ((⟨⟨[32, 9, 10, 13]⟩⟩ : ByteArray).extract 2 4).data.toList ((((⟨⟨[a, b]⟩⟩ : ByteArray)[1]'(by simp [ByteArray.size])).toNat : Int)).toNat.toUInt8 = -1 := by
  show Lib.indexByte [10, 13] (((b.toNat : Int)).toNat.toUInt8) = -1
  rw [show ((b.toNat : Int)).toNat.toUInt8 = b by simp]
  have e1 : ((10 : UInt8) == b) = false := by simpa using fun e : (10 : UInt8) = b => h4 e.symm
  have e2 : ((13 : UInt8) == b) = false := by simpa using fun e : (13 : UInt8) = b => h5 e.symm
  simp [Lib.indexByte, e1, e2]
 go_wp2_with (go_at_call 146; refine (Any.strings_IndexByte { Tryz.lays151 with } _ _ _).mono ?_; rintro e w' ⟨rfl, hw⟩; rw [hw, hix])
 simp (config := { zetaDelta := true }) only [Exit.noGoto, Exit.inBlock, Exit.then]
 go_ret
 exact ⟨rfl, rfl, rfl, rfl, Nat.le_refl _, fun _ _ => rfl⟩
theorem cr144 (r : Int) (w : World) (h0 : 128 ≤ r) (h1 : r ≤ 255) : Calls Tryz.prog 144 #[.string ⟨⟨[32, 9, 10, 13]⟩⟩, .int .i32 r] w fun e w' => e = .returned (.bool false) ∧ Below w.heap.size w w' := by
 go_enter Tryz.func144, Tryz.ntmps144
 go_wp2_with (go_at_call 186; refine (ir186 r _ h0 h1).mono ?_; rintro e w' ⟨rfl, hb⟩)
 go_ret
 exact ⟨rfl, hb⟩
end Go.Proofs
namespace Go.Aw.T.N
open Go Go.Aw Go.Proofs
theorem p144b (r : Int) (h0 : 128 ≤ r) (h1 : r ≤ 255) : Pure Tryz.prog 144 [.str [32, 9, 10, 13], .int .i32 r] (.bool false) := by
 refine pure_of_plain fun m vs hG hv => ?_
 simp only [RvL, Rv] at hv
 obtain ⟨_, _, rfl, ⟨rfl, _⟩, _, _, rfl, rfl, rfl⟩ := hv
 refine (cr144 r m.w h0 h1).mono ?_
 rintro e w' ⟨rfl, hb⟩
 exact ⟨_, rfl, fun m' => by simp only [Rv], hb⟩
end Go.Aw.T.N
namespace Go.Aw
open Go
set_option linter.unusedVariables false
def Suf (s x : List UInt8) (a : Nat) : Prop := a + x.length = s.length ∧ s.drop a = x
theorem Suf.refl (s : List UInt8) : Suf s s 0 := ⟨by simp, by simp⟩
theorem Suf.get {s x : List UInt8} {c : UInt8} {a : Nat} (h : Suf s (c :: x) a) : s[a]? = some c := by
 have e : (s.drop a)[0]? = some c := by rw [h.2]; rfl
 rw [List.getElem?_drop] at e
 simpa using e
theorem Suf.app {s y : List UInt8} {a : Nat} (u : List UInt8) (h : Suf s (u ++ y) a) : Suf s y (a + u.length) := by
 obtain ⟨h1, h2⟩ := h
 rw [List.length_append] at h1
 refine ⟨by omega, ?_⟩
 rw [← List.drop_drop, h2]
 simp
theorem Suf.tail {s x : List UInt8} {c : UInt8} {a : Nat} (h : Suf s (c :: x) a) : Suf s x (a + 1) := Suf.app [c] h
theorem Suf.sl {s y : List UInt8} {u : List UInt8} {a : Nat} (h : Suf s (u ++ y) a) : (s.take (a + u.length)).drop a = u := by
 rw [List.drop_take, h.2, Nat.add_sub_cancel_left]
 simp
theorem Suf.eq {s x : List UInt8} {a : Nat} (h : Suf s x a) : s.length - x.length = a := by have := h.1; omega
def blankB (c : UInt8) : Bool := c == 32 || (c == 9 || (c == 10 || c == 13))
def lineR (x : List UInt8) : List UInt8 := (x.dropWhile (· != 10)).tail
def skipR : Nat → List UInt8 → List UInt8
 | 0, x => x
 | n + 1, [] => []
 | n + 1, c :: x => if blankB c = true then skipR n x else if (c :: x).take 2 = [47, 47] then skipR n (lineR (c :: x)) else c :: x
inductive LRes where
 | ok (t : Tk) (r : List UInt8)
 | err (e : Int)
def valD : List UInt8 → Int → Int
 | [], v => v
 | c :: x, v => valD x (10 * v + ((c.toNat : Int) - 48))
def hdInner : List UInt8 → Bool
 | [] => false
 | c :: _ => innerB c
def numR (w r : List UInt8) : LRes :=
 if hdInner r = true then .err 3
 else if 6 < w.length ∨ 1 < w.length ∧ w.head? = some 48 then .err 2
 else .ok ⟨2, [], valD w 0, 0⟩ r
def numL (x : List UInt8) : LRes := numR (x.takeWhile digitB) (x.dropWhile digitB)
def namL (x : List UInt8) : LRes :=
 if 16 < (x.takeWhile innerB).length then .err 6 else .ok ⟨1, x.takeWhile innerB, 0, 0⟩ (x.dropWhile innerB)
def txtL : List UInt8 → List UInt8 → LRes
 | _, [] => .err 3
 | b, c :: x => if c.toNat = 34 then (if 40 < b.length then .err 6 else .ok ⟨3, b, 0, 0⟩ x)
  else if c.toNat = 92 then match x with
   | [] => .err 3
   | d :: y => if d.toNat = 34 ∨ d.toNat = 92 then txtL (b ++ [d]) y else .err 3
  else if c.toNat < 32 ∨ 126 < c.toNat then .err 3 else txtL (b ++ [c]) x
def marks2 : List (List UInt8) := [[45, 62], [46, 46], [60, 61], [62, 61], [61, 61], [33, 61], [38, 38], [124, 124]]
def marks1 : List UInt8 := [40, 41, 123, 125, 44, 59, 58, 46, 43, 45, 42, 47, 37, 60, 62, 61, 33]
def mrkL (x : List UInt8) : LRes :=
 if x.take 2 ∈ marks2 then .ok ⟨4, x.take 2, 0, 0⟩ (x.drop 2)
 else match x with
  | [] => .err 3
  | c :: y => if c ∈ marks1 then .ok ⟨4, [c], 0, 0⟩ y else .err 3
def tokL : List UInt8 → LRes
 | [] => .err 3
 | c :: x => if letterB c = true then namL (c :: x) else if digitB c = true then numL (c :: x) else if c.toNat = 34 then txtL [] x else mrkL (c :: x)
inductive LxRes where
 | ok (l : List Tk)
 | err (p e : Int)
def lexL (N : Nat) : Nat → List Tk → List UInt8 → LxRes
 | 0, acc, _ => .ok acc
 | n + 1, acc, x => match skipR (x.length + 1) x with
  | [] => .ok acc
  | c :: y => match tokL (c :: y) with
   | .err e => .err ((N - (c :: y).length : Nat) : Int) e
   | .ok t r => lexL N n (acc ++ [{ t with frm := ((N - (c :: y).length : Nat) : Int) }]) r
def lexA (s : List UInt8) : LxRes := if 8000 < s.length then .err 8000 6 else lexL s.length (s.length + 1) [] s
def lexB (N n : Nat) (acc : List Tk) : List UInt8 → LxRes
 | [] => .ok acc
 | c :: y => match tokL (c :: y) with
  | .err e => .err ((N - (c :: y).length : Nat) : Int) e
  | .ok t r => lexL N n (acc ++ [{ t with frm := ((N - (c :: y).length : Nat) : Int) }]) r
theorem lexL_succ (N n : Nat) (acc : List Tk) (x : List UInt8) : lexL N (n + 1) acc x = lexB N n acc (skipR (x.length + 1) x) := by
 rw [lexL]
 cases skipR (x.length + 1) x <;> rfl
theorem txtL_suf : ∀ (n : Nat) (b x : List UInt8) (t : Tk) (r : List UInt8), x.length ≤ n → txtL b x = .ok t r → ∃ u, x = u ++ r
 | n, b, [], t, r, _, h => by simp [txtL] at h
 | 0, b, c :: x, t, r, hn, h => by simp at hn
 | n + 1, b, [c], t, r, hn, h => by
  simp only [txtL] at h
  split at h
  ·split at h
   ·cases h
   ·cases h; exact ⟨[c], rfl⟩
  split at h
  ·cases h
  split at h <;> cases h
 | n + 1, b, c :: d :: y, t, r, hn, h => by
  rw [txtL] at h
  simp only [List.length_cons] at hn
  split at h
  ·split at h
   ·cases h
   ·cases h; exact ⟨[c], rfl⟩
  split at h
  ·split at h
   ·obtain ⟨u, hu⟩ := txtL_suf n _ _ _ _ (by omega) h
    exact ⟨c :: d :: u, by rw [hu]; rfl⟩
   ·cases h
  split at h
  ·cases h
  ·obtain ⟨u, hu⟩ := txtL_suf n _ _ _ _ (by simp only [List.length_cons]; omega) h
   exact ⟨c :: u, by rw [hu]; rfl⟩
theorem letter_inner {c : UInt8} (h : letterB c = true) : innerB c = true := by
 simp only [letterB] at h
 simp only [innerB, innerZ, h, Bool.true_or]
theorem tokL_suf {c : UInt8} {y : List UInt8} {t : Tk} {r : List UInt8} (h : tokL (c :: y) = .ok t r) : ∃ d u, c :: y = (d :: u) ++ r := by
 simp only [tokL] at h
 split at h
 ·rename_i hl
  unfold namL at h
  split at h
  ·cases h
  ·cases h
   refine ⟨c, y.takeWhile innerB, ?_⟩
   have := List.takeWhile_append_dropWhile (p := innerB) (l := c :: y)
   rw [List.takeWhile_cons, if_pos (letter_inner hl)] at this
   exact this.symm
 split at h
 ·rename_i hd
  unfold numL numR at h
  split at h
  ·cases h
  split at h
  ·cases h
  ·cases h
   refine ⟨c, y.takeWhile digitB, ?_⟩
   have := List.takeWhile_append_dropWhile (p := digitB) (l := c :: y)
   rw [List.takeWhile_cons, if_pos hd] at this
   exact this.symm
 split at h
 ·obtain ⟨u, hu⟩ := txtL_suf _ _ _ _ _ (Nat.le_refl _) h
  exact ⟨c, u, by rw [hu]; rfl⟩
 ·unfold mrkL at h
  split at h
  ·cases h
   cases y with
   | nil => rename_i hm; simp [marks2] at hm
   | cons d y => exact ⟨c, [d], rfl⟩
  ·simp only at h
   split at h
   ·cases h
    exact ⟨c, [], rfl⟩
   ·cases h
theorem txtL_err : ∀ (n : Nat) (b x : List UInt8) (e : Int), x.length ≤ n → txtL b x = .err e → e ≠ 0
 | n, b, [], e, _, h => by simp only [txtL] at h; cases h; decide
 | 0, b, c :: x, e, hn, h => by simp at hn
 | n + 1, b, [c], e, hn, h => by
  simp only [txtL] at h
  split at h
  ·split at h
   ·cases h; decide
   ·cases h
  split at h
  ·cases h; decide
  split at h <;> (cases h; decide)
 | n + 1, b, c :: d :: y, e, hn, h => by
  rw [txtL] at h
  simp only [List.length_cons] at hn
  split at h
  ·split at h
   ·cases h; decide
   ·cases h
  split at h
  ·split at h
   ·exact txtL_err n _ _ _ (by omega) h
   ·cases h; decide
  split at h
  ·cases h; decide
  ·exact txtL_err n _ _ _ (by simp only [List.length_cons]; omega) h
theorem tokL_err {c : UInt8} {y : List UInt8} {e : Int} (h : tokL (c :: y) = .err e) : e ≠ 0 := by
 simp only [tokL] at h
 split at h
 ·unfold namL at h
  split at h <;> cases h
  decide
 split at h
 ·unfold numL numR at h
  split at h
  ·cases h; decide
  split at h <;> cases h
  decide
 split at h
 ·exact txtL_err _ _ _ _ (Nat.le_refl _) h
 ·unfold mrkL at h
  split at h
  ·cases h
  ·simp only at h
   split at h <;> cases h
   decide
theorem lineR_suf (x : List UInt8) : ∃ u, x = u ++ lineR x := by
 unfold lineR
 have := List.takeWhile_append_dropWhile (p := (· != 10)) (l := x)
 cases h : x.dropWhile (· != 10) with
 | nil => rw [h] at this; exact ⟨x, by simp⟩
 | cons c y =>
  rw [h] at this
  exact ⟨x.takeWhile (· != 10) ++ [c], by rw [List.append_assoc]; exact this.symm⟩
theorem skipR_suf : ∀ (n : Nat) (x : List UInt8), ∃ u, x = u ++ skipR n x
 | 0, x => ⟨[], rfl⟩
 | n + 1, [] => ⟨[], rfl⟩
 | n + 1, c :: x => by
  simp only [skipR]
  split
  ·obtain ⟨u, hu⟩ := skipR_suf n x
   exact ⟨c :: u, by rw [List.cons_append, ← hu]⟩
  split
  ·obtain ⟨u, hu⟩ := lineR_suf (c :: x)
   obtain ⟨v, hv⟩ := skipR_suf n (lineR (c :: x))
   exact ⟨u ++ v, by rw [List.append_assoc, ← hv, ← hu]⟩
  ·exact ⟨[], rfl⟩
theorem Suf.of {s x y u : List UInt8} {a : Nat} (h : Suf s x a) (e : x = u ++ y) : ∃ p, s.length - y.length = p ∧ Suf s y p ∧ a + u.length = p := by
 subst e
 have := Suf.app u h
 exact ⟨_, this.eq, this, rfl⟩
def lexV : LxRes → AV
 | .ok l => .tup [.vs 4 (l.map Tk.row), .int .i64 0, .int .i64 0]
 | .err p e => .tup [.vs 4 [], .int .i64 p, .int .i64 e]
end Go.Aw
