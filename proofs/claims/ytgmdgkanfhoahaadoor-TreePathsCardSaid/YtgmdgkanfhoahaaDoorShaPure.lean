/- The digest of bytes as plain functions over whole numbers: words of a block, the rounds, blocks, padding. Nothing is claimed here but small laws of these functions. -/
import Derived.Test.YtgmdgkanfhoahaaDoorShaRot
import Derived.Test.YtgmdgkanfhoahaaDoorWWords
import Derived.Laws.BitsLemmas
namespace Go.Proofs.YtgmdgkanfhoahaaDoor.ShaPure
open Go.RowKit Go.Proofs.YtgmdgkanfhoahaaDoor.ShaRot Go.Proofs.YtgmdgkanfhoahaaDoorW.PrintWords
set_option linter.unusedVariables false

def add32 (a b : Int) : Int := (a + b) % 4294967296
/-- Word t of a block: four bytes, the highest first. -/
def wd (b : List Int) (t : Int) : Int := rd b (4 * t) * 16777216 + rd b (4 * t + 1) * 65536 + rd b (4 * t + 2) * 256 + rd b (4 * t + 3)
theorem wraps_u32 (n : Int) (h0 : 0 ≤ n) (h1 : n < 2 ^ 32) : IntKind.u32.wrap n = n := by rw [IntKind.wrap_u32]; omega
theorem u32_or (i : Nat) (x y : Int) (hx0 : 0 ≤ x) (hx : x % 2 ^ i = 0) (hx1 : x < 2 ^ 32) (hy0 : 0 ≤ y) (hy : y < 2 ^ i) (hy1 : y < 2 ^ 32) : bits .or .u32 x y = x + y :=
  bits_join .u32 32 (by decide) wraps_u32 i x y hx0 hx hx1 hy0 hy hy1
/-- Four bytes, joined by 'or' or by sums, make one word. -/
theorem wd_or (p q r s : Int) (hp : 0 ≤ p ∧ p ≤ 255) (hq : 0 ≤ q ∧ q ≤ 255) (hr : 0 ≤ r ∧ r ≤ 255) (hs : 0 ≤ s ∧ s ≤ 255) :
    bits .or .u32 (p * 16777216) (q * 65536) = p * 16777216 + q * 65536 ∧ bits .or .u32 (p * 16777216 + q * 65536) (r * 256) = p * 16777216 + q * 65536 + r * 256 ∧
    bits .or .u32 (p * 16777216 + q * 65536 + r * 256) s = p * 16777216 + q * 65536 + r * 256 + s :=
  ⟨u32_or 24 _ _ (by omega) (by omega) (by omega) (by omega) (by omega) (by omega), u32_or 16 _ _ (by omega) (by omega) (by omega) (by omega) (by omega) (by omega), u32_or 8 _ _ (by omega) (by omega) (by omega) (by omega) (by omega) (by omega)⟩
def Bytes (l : List Int) : Prop := ∀ x ∈ l, 0 ≤ x ∧ x ≤ 255
theorem Bytes.at_ {l : List Int} (h : Bytes l) (i : Int) : 0 ≤ rd l i ∧ rd l i ≤ 255 := by
  unfold rd
  rw [List.getD_eq_getElem?_getD]
  by_cases hi : i.toNat < l.length
  · rw [List.getElem?_eq_getElem hi]
    exact h _ (List.getElem_mem hi)
  · rw [List.getElem?_eq_none (by omega)]
    simp
def sg0 (x : Int) : Int := bits .xor .u32 (bits .xor .u32 (rotr x 7) (rotr x 18)) (x / 8)
def sg1 (x : Int) : Int := bits .xor .u32 (bits .xor .u32 (rotr x 17) (rotr x 19)) (x / 1024)
/-- The words of all rounds. -/
def SW (b : List Int) (t : Nat) : Int :=
  if t < 16 then wd b t else add32 (add32 (add32 (SW b (t - 16)) (sg0 (SW b (t - 15)))) (SW b (t - 7))) (sg1 (SW b (t - 2)))
termination_by t
decreasing_by all_goals omega
structure V8 where
  a : Int
  b : Int
  c : Int
  d : Int
  e : Int
  f : Int
  g : Int
  h : Int
def one (v : V8) (k w : Int) : Int :=
  add32 (add32 (add32 (add32 v.h (bits .xor .u32 (bits .xor .u32 (rotr v.e 6) (rotr v.e 11)) (rotr v.e 25))) (bits .xor .u32 (bits .and .u32 v.e v.f) (bits .and .u32 (bits .xor .u32 4294967295 v.e) v.g))) k) w
def two (v : V8) : Int :=
  add32 (bits .xor .u32 (bits .xor .u32 (rotr v.a 2) (rotr v.a 13)) (rotr v.a 22)) (bits .xor .u32 (bits .xor .u32 (bits .and .u32 v.a v.b) (bits .and .u32 v.a v.c)) (bits .and .u32 v.b v.c))
def rnd (v : V8) (k w : Int) : V8 := ⟨add32 (one v k w) (two v), v.a, v.b, v.c, add32 v.d (one v k w), v.e, v.f, v.g⟩
/-- The words that the rounds add. -/
def KT : List Int := [1116352408, 1899447441, 3049323471, 3921009573, 961987163, 1508970993, 2453635748, 2870763221, 3624381080, 310598401, 607225278, 1426881987, 1925078388, 2162078206, 2614888103, 3248222580, 3835390401, 4022224774, 264347078, 604807628, 770255983, 1249150122, 1555081692, 1996064986, 2554220882, 2821834349, 2952996808, 3210313671, 3336571891, 3584528711, 113926993, 338241895, 666307205, 773529912, 1294757372, 1396182291, 1695183700, 1986661051, 2177026350, 2456956037, 2730485921, 2820302411, 3259730800, 3345764771, 3516065817, 3600352804, 4094571909, 275423344, 430227734, 506948616, 659060556, 883997877, 958139571, 1322822218, 1537002063, 1747873779, 1955562222, 2024104815, 2227730452, 2361852424, 2428436474, 2756734187, 3204031479, 3329325298]
def RR (v : V8) (b : List Int) : Nat → V8
  | 0 => v
  | t + 1 => rnd (RR v b t) (rd KT t) (SW b t)
def blk (v : V8) (b : List Int) : V8 :=
  let u := RR v b 64
  ⟨add32 v.a u.a, add32 v.b u.b, add32 v.c u.c, add32 v.d u.d, add32 v.e u.e, add32 v.f u.f, add32 v.g u.g, add32 v.h u.h⟩
def V8.cells (v : V8) : List Value := [.int .u32 v.a, .int .u32 v.b, .int .u32 v.c, .int .u32 v.d, .int .u32 v.e, .int .u32 v.f, .int .u32 v.g, .int .u32 v.h]
def H0 : V8 := ⟨1779033703, 3144134277, 1013904242, 2773480762, 1359893119, 2600822924, 528734635, 1541459225⟩

/-! ### bytes that come in one by one -/
def step (s : V8 × List Int) (c : Int) : V8 × List Int := if (s.2 ++ [c]).length = 64 then (blk s.1 (s.2 ++ [c]), []) else (s.1, s.2 ++ [c])
def absorb (s : V8 × List Int) (l : List Int) : V8 × List Int := l.foldl step s
theorem absorb_append (s : V8 × List Int) (a b : List Int) : absorb s (a ++ b) = absorb (absorb s a) b := List.foldl_append
theorem step_len (s : V8 × List Int) (c : Int) (h : s.2.length < 64) : (step s c).2.length < 64 := by
  unfold step
  split
  · simp
  · simp at *; omega
theorem absorb_len (l : List Int) : ∀ (s : V8 × List Int), s.2.length < 64 → (absorb s l).2.length < 64 := by
  induction l with
  | nil => exact fun s h => h
  | cons c l ih => exact fun s h => ih _ (step_len s c h)
/-- What fits without filling a block. -/
theorem absorb_fits (v : V8) : ∀ (l r : List Int), r.length + l.length < 64 → absorb (v, r) l = (v, r ++ l)
  | [], r, _ => by simp [absorb]
  | c :: l, r, h => by
    simp at h
    show absorb (step (v, r) c) l = _
    have : step (v, r) c = (v, r ++ [c]) := by
      unfold step
      rw [if_neg (by simp; omega)]
    rw [this, absorb_fits v l (r ++ [c]) (by simp; omega)]
    simp
/-- What fills it just. -/
theorem absorb_fills (v : V8) (l r : List Int) (h : r.length + l.length = 64) (hl : l ≠ []) : absorb (v, r) l = (blk v (r ++ l), []) := by
  obtain ⟨m, c, rfl⟩ : ∃ m c, l = m ++ [c] := ⟨l.dropLast, l.getLast hl, (List.dropLast_concat_getLast hl).symm⟩
  simp at h
  rw [absorb_append, absorb_fits v m r (by omega)]
  show step _ c = _
  unfold step
  rw [if_pos (by simp; omega)]
  simp
/-- The eight bytes of a length, the highest first. -/
def len8 (n : Nat) : List Int := (List.range 8).map fun i => ((8 * n : Nat) : Int) % 18446744073709551616 / 2 ^ (8 * (7 - i)) % 256
def pad (l : List Int) : List Int := l ++ [128] ++ List.replicate ((119 - l.length % 64) % 64) 0 ++ len8 l.length
def out (v : V8) : List Int := [v.a, v.b, v.c, v.d, v.e, v.f, v.g, v.h].flatMap fun x => [x / 16777216 % 256, x / 65536 % 256, x / 256 % 256, x % 256]
/-- The digest. -/
def sha (l : List Int) : List Int := out (absorb (H0, []) (pad l)).1
end Go.Proofs.YtgmdgkanfhoahaaDoor.ShaPure
