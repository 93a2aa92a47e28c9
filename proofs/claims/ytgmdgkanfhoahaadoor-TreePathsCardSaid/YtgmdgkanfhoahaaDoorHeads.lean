/- Rows of headers, as they are appended; a row of blocks out of them; what was noted is bytes. -/
import Derived.Test.YtgmdgkanfhoahaaDoorGRow
import Derived.Test.YtgmdgkanfhoahaaDoorClashP
import Derived.Laws.BitsAllLaws
namespace Go.Proofs.YtgmdgkanfhoahaaDoor.Heads
open Go.RowKit Go.Proofs.YtgmdgkanfhoahaaDoor.ShaPure Go.Proofs.YtgmdgkanfhoahaaDoor.ShaBlk Go.Proofs.YtgmdgkanfhoahaaDoor.ShaWrite Go.Proofs.YtgmdgkanfhoahaaDoor.ShaSum Go.Proofs.YtgmdgkanfhoahaaDoor.ShaEnd Go.Proofs.YtgmdgkanfhoahaaDoor.ShaOf Go.Proofs.YtgmdgkanfhoahaaDoor.BytesW Go.Proofs.YtgmdgkanfhoahaaDoor.Put Go.Proofs.YtgmdgkanfhoahaaDoor.LogW Go.Proofs.YtgmdgkanfhoahaaDoor.Dig Go.Proofs.YtgmdgkanfhoahaaDoor.Hdr Go.Proofs.YtgmdgkanfhoahaaDoor.Above Go.Proofs.YtgmdgkanfhoahaaDoor.Build Go.Proofs.YtgmdgkanfhoahaaDoor.GRow Go.Proofs.YtgmdgkanfhoahaaDoor.PlanP Go.Proofs.YtgmdgkanfhoahaaDoor.Chk Go.Proofs.YtgmdgkanfhoahaaDoor.PathP Go.Proofs.YtgmdgkanfhoahaaDoor.ClashP Go.Proofs.YtgmdgkanfhoahaaDoorW.PrintWords Go.Proofs.YtgmdgkanfhoahaaDoorW.PrintLast Go.Proofs.YtgmdgkanfhoahaaDoorW.PrintMore
set_option linter.unusedVariables false
set_option linter.unusedSimpArgs false

abbrev Hd := Option Addr × Nat × Nat
def h0 : Hd := (none, 0, 0)
def hv (h : Hd) : Value := .slice h.1 h.2.1 h.2.2
abbrev HVK : Kd Hd := Kd.scalar hv (fun _ => rfl)
/-- A header at which a block reads. -/
def HB (w : World) (h : Hd) (b : List Int) : Prop := h.2.1 = b.length ∧ b.length ≤ h.2.2 ∧ Kd.C (Kd.int .u8) w h.1 b.length b
theorem HB.below {w w' : World} {h : Hd} {b : List Int} (hb : HB w h b) (k : Below w.heap.size w w') : HB w' h b := ⟨hb.1, hb.2.1, Kd.C_below hb.2.2 k⟩
theorem heads_of {w : World} {A : Option Addr} {n : Nat} {bs : List (List Int)} (h : BB.C w A n bs) : ∃ hs : List Hd, HVK.C w A n hs ∧ hs.length = bs.length ∧ ∀ j, j < bs.length → HB w (hs.getD j h0) (bs.getD j []) := by
  have hn : bs.length = n := h.1
  have each : ∀ i : Fin bs.length, ∃ x : Hd, HB w x (bs.getD i []) ∧ ∃ ad, A = some ad ∧ w.cell? (ad.add i) = some (hv x) := fun i => by
    obtain ⟨ad, A1, c1, e, hc, hC, hcell⟩ := BB_at h i (by omega)
    exact ⟨(A1, (bs.getD i []).length, c1), ⟨rfl, hc, hC⟩, ad, e, hcell⟩
  refine ⟨List.ofFn fun i => Classical.choose (each i), ⟨by rw [List.length_ofFn]; exact hn, h.2.1, fun hn0 => ?_⟩, List.length_ofFn, fun j hj => ?_⟩
  · obtain ⟨ad, e, -⟩ := h.2.2 hn0
    refine ⟨ad, e, fun j p hj => ?_⟩
    have hjl : j < bs.length := by
      have := (List.getElem?_eq_some_iff.1 hj).1
      rwa [List.length_ofFn] at this
    rw [List.getElem?_ofFn, dif_pos hjl] at hj
    injection hj with hj
    obtain ⟨ad', e', hc⟩ := (Classical.choose_spec (each ⟨j, hjl⟩)).2
    rw [hj] at hc
    have e2 : ad = ad' := by rw [e] at e'; injection e'
    subst e2
    refine ⟨[hv p], rfl, rfl, fun i u hu => ?_⟩
    cases i with
    | succ i => simp at hu
    | zero =>
      have hu' : hv p = u := by simpa using hu
      rw [← hu', show j * HVK.sz + 0 = j from Nat.mul_one j]
      exact hc
  · have := (Classical.choose_spec (each ⟨j, hj⟩)).1
    rwa [List.getD_eq_getElem?_getD, List.getElem?_ofFn, dif_pos hj, Option.getD_some]
theorem C_of_heads {w : World} {A : Option Addr} {n : Nat} {bs : List (List Int)} {hs : List Hd} (h : HVK.C w A n hs) (hl : hs.length = bs.length) (hb : ∀ j, j < bs.length → HB w (hs.getD j h0) (bs.getD j [])) : BB.C w A n bs := by
  refine ⟨by rw [← hl]; exact h.1, h.2.1, fun hn0 => ?_⟩
  obtain ⟨ad, e, hc⟩ := h.2.2 hn0
  refine ⟨ad, e, fun j p hj => ?_⟩
  have hjl := (List.getElem?_eq_some_iff.1 hj).1
  have hjh : j < hs.length := by omega
  obtain ⟨cs, h1, h2, h3⟩ := hc j _ (List.getElem?_eq_getElem hjh)
  have hp : bs.getD j [] = p := by rw [List.getD_eq_getElem?_getD, hj]; rfl
  have hx : hs.getD j h0 = hs[j] := by rw [List.getD_eq_getElem?_getD, List.getElem?_eq_getElem hjh]; rfl
  have hB := hb j hjl
  rw [hp, hx] at hB
  have h2' : cs = [hv hs[j]] := h2
  exact ⟨cs, h1, ⟨hs[j].1, hs[j].2.2, by rw [h2', ← hB.1]; rfl, hB.2.1, hB.2.2⟩, h3⟩
theorem HB.append {w : World} {hs ks : List Hd} {bs X : List (List Int)} (hl : hs.length = bs.length) (h : ∀ j, j < bs.length → HB w (hs.getD j h0) (bs.getD j [])) (hk : ∀ j, j < X.length → HB w (ks.getD j h0) (X.getD j [])) :
    ∀ j, j < (bs ++ X).length → HB w ((hs ++ ks).getD j h0) ((bs ++ X).getD j []) := fun j hj => by
  rw [List.length_append] at hj
  by_cases hlt : j < bs.length
  · rw [List.getD_eq_getElem?_getD, List.getD_eq_getElem?_getD (l := bs ++ X), List.getElem?_append_left (by omega), List.getElem?_append_left hlt, ← List.getD_eq_getElem?_getD, ← List.getD_eq_getElem?_getD]
    exact h j hlt
  · rw [List.getD_eq_getElem?_getD, List.getD_eq_getElem?_getD (l := bs ++ X), List.getElem?_append_right (by omega), List.getElem?_append_right (by omega), ← List.getD_eq_getElem?_getD, ← List.getD_eq_getElem?_getD, hl]
    exact hk _ (by omega)
theorem RD.of_G {w : World} {S : Nat → Prop} {A : Option Addr} {n c : Nat} {gs : List (Nat × Nat)} {xs : List (List Int)} (h : GRows w (.slice A n c) gs xs) (hn : ∀ k, ghas (.slice A n c) gs k → ¬ S k) : RD w S A xs := by
  obtain ⟨A', c', e, hc, hC⟩ := h.reads
  have e1 := (Value.slice.inj e).1
  rw [← e1] at hC
  refine ⟨Kd.C_max hC, fun i hi => ?_⟩
  obtain ⟨ad, e2, -⟩ := hC.2.2 (by omega)
  have hg : i < gs.length := by rw [← h.len]; exact hi
  have hb := h.blk i gs[i] (List.getElem?_eq_getElem hg)
  refine ⟨ad, some ⟨gs[i].1, 0, none⟩, gs[i].2, e2, by rw [hb.1]; exact hb.2.1, fun W' hk => ?_⟩
  have h' := h.kept hk hn
  rw [hb.1]
  refine ⟨(h'.blk i gs[i] (List.getElem?_eq_getElem hg)).C, ?_⟩
  obtain ⟨og, eA, hcell⟩ := h.cell_ (List.getElem?_eq_getElem hg)
  have := hcell W' xs h'
  rw [eA] at e2
  injection e2 with e2
  rw [← e2, ShaWrite.add_at]
  exact this
theorem low_C64 {w0 W : World} {A : Option Addr} {n : Nat} {xs : List Int} (h : (Kd.int .i64).C w0 A n xs) (hk : ∀ b, b < w0.heap.size → W.heap[b]? = w0.heap[b]?) : (Kd.int .i64).C W A n xs := by
  have hr := Kd.reads_of_C (enc := Value.int .i64) (d := (0 : Int)) (h1 := fun _ => rfl) h
  refine Kd.C_of_reads (enc := Value.int .i64) (d := (0 : Int)) (h1 := fun _ => rfl) ⟨hr.1, hr.2.1, fun hn => ?_⟩
  obtain ⟨ad, e, hc⟩ := hr.2.2 hn
  exact ⟨ad, e, fun j hj => cell_same (hc j hj) (hk _ (cell_lt (hc j hj)))⟩
/-- What was noted: inputs of blocks. -/
def Inp (ps : PS) : Prop := ∀ p ∈ ps, ∃ n l, p = (input n l, dig n l) ∧ Bytes l ∧ l.length ≤ 256
theorem inp_append {ps qs : PS} (h : Inp ps) (k : Inp qs) : Inp (ps ++ qs) := fun p hp => (List.mem_append.1 hp).elim (h p) (k p)
theorem getD_mem {l : List (List Int)} (hb : ∀ x ∈ l, Bytes x) (hl : ∀ x ∈ l, x.length = 256) (i : Nat) : Bytes (l.getD i []) ∧ (l.getD i []).length ≤ 256 := by
  rw [List.getD_eq_getElem?_getD]
  cases h : l[i]? with
  | none => exact ⟨fun x hx => by simp at hx, by simp⟩
  | some x =>
    have hm := List.mem_of_getElem? h
    exact ⟨hb _ hm, Nat.le_of_eq (hl _ hm)⟩
theorem prs_inp (n : Int) (bs : List (List Int)) (hb : ∀ x ∈ bs, Bytes x) (hl : ∀ x ∈ bs, x.length = 256) : ∀ i, Inp (prs n bs i)
  | 0 => fun p hp => by cases hp
  | i + 1 => by
    rw [prs]
    refine inp_append (prs_inp n bs hb hl i) (fun p hp => ?_)
    rw [List.mem_singleton.1 hp]
    exact ⟨_, _, rfl, (getD_mem hb hl i).1, (getD_mem hb hl i).2⟩
theorem upPairs_inp (n : Int) (bs : List (List Int)) (hb : ∀ x ∈ bs, Bytes x) (hl : ∀ x ∈ bs, x.length = 256) : ∀ k, Inp (upPairs n bs k)
  | 0 => fun p hp => by cases hp
  | k + 1 => by
    rw [upPairs]
    exact inp_append (upPairs_inp n bs hb hl k) (prs_inp _ _ (upN_bytes n bs hb k) (upN_full n bs hl k) _)
theorem cps_inp (bl : List Int) (path : List (List Int)) (hb : ∀ x ∈ path, Bytes x) (hl : ∀ x ∈ path, x.length = 256) : ∀ i, Inp (cps bl path i)
  | 0 => fun p hp => by cases hp
  | i + 1 => by
    rw [cps]
    refine inp_append (cps_inp bl path hb hl i) (fun p hp => ?_)
    rw [List.mem_singleton.1 hp]
    exact ⟨_, _, rfl, (getD_mem hb hl i).1, (getD_mem hb hl i).2⟩
theorem inp_ok {ps : PS} (h : Inp ps) : ∀ i, i < ps.length → Bytes (dg ps i) ∧ Bytes (inp ps i) ∧ (inp ps i).length ≤ 1000000 := fun i hi => by
  obtain ⟨n, l, e, hb, hl⟩ := h ps[i] (List.getElem_mem hi)
  have hd : ps.getD i ([], []) = ps[i] := by rw [List.getD_eq_getElem?_getD, List.getElem?_eq_getElem hi]; rfl
  unfold dg inp
  rw [hd, e]
  refine ⟨dig_bytes n l, fun x hx => ?_, ?_⟩
  · rcases List.mem_append.1 hx with hx | hx
    · exact head_bytes _ x hx
    · exact hb x hx
  · show (input n l).length ≤ _
    unfold input head
    simp only [List.length_append, List.length_cons, List.length_nil]
    omega
/-- How many levels there are, and where the top stands. -/
theorem up_facts (P : Int) (bs : List (List Int)) (hP : 1 ≤ P) (hP2 : P ≤ 300) (C : Int) (hC : (P + 15) / 16 = C) (hbs : (bs.length : Int) = C) (L : List Int) (hL : levels C = L) (N : Int) (hN : L.sum = N) (H : Int) (hH : P + C + N = H) :
    (upN P bs L.length).2.2.length = 1 ∧ (upN P bs L.length).2.1 = H - 1 ∧ (upN P bs L.length).1.length = N.toNat := by
  unfold levels at hL
  by_cases h8 : C ≤ 8
  · rw [if_pos h8] at hL
    subst hL
    have hN1 : N = 1 := by rw [← hN]; rfl
    subst hN1
    have hal : (aft P bs bs.length).length = 1 := by rw [aft_length]; omega
    have hu : upN P bs [(1 : Int)].length = ([] ++ aft P bs bs.length, P + bs.length, aft P bs bs.length) := rfl
    rw [hu]
    exact ⟨hal, by show P + (bs.length : Int) = H - 1; omega, by simpa using hal⟩
  · rw [if_neg h8] at hL
    subst hL
    have hN1 : N = (C + 7) / 8 + 1 := by rw [← hN]; simp
    subst hN1
    obtain ⟨lv, hlv⟩ : ∃ l, aft P bs bs.length = l := ⟨_, rfl⟩
    have hal : (lv.length : Int) = (C + 7) / 8 := by rw [← hlv, aft_length]; omega
    have hal2 : (aft (P + bs.length) lv lv.length).length = 1 := by rw [aft_length]; omega
    have hu : upN P bs [((C + 7) / 8 : Int), 1].length = (([] ++ lv) ++ aft (P + bs.length) lv lv.length, P + bs.length + lv.length, aft (P + bs.length) lv lv.length) := by
      rw [← hlv]; rfl
    rw [hu]
    exact ⟨hal2, by show P + (bs.length : Int) + lv.length = H - 1; omega, by rw [List.length_append, hal2]; simp; omega⟩
theorem upN_all (n : Int) (bs : List (List Int)) (h : ∀ b ∈ bs, Bytes b) (hl : ∀ b ∈ bs, b.length = 256) : ∀ k, ∀ x ∈ (upN n bs k).1, Bytes x ∧ x.length = 256
  | 0 => fun x hx => by cases hx
  | k + 1 => fun x hx => by
    rcases List.mem_append.1 hx with hx | hx
    · exact upN_all n bs h hl k x hx
    · exact ⟨aft_bytes _ _ _ x hx, aft_full _ _ _ x hx⟩
theorem pathOf_len (all : List (List Int)) (P : Int) (bl : List Int) : (pathOf all P bl).length = bl.length := by unfold pathOf; rw [List.length_map]
theorem pathOf_all {all : List (List Int)} {P : Int} {bl : List Int} {p : List Int → Prop} (h : ∀ x ∈ all, p x) (hr : ∀ z ∈ bl, P ≤ z ∧ z < P + all.length) : ∀ x ∈ pathOf all P bl, p x := fun x hx => by
  obtain ⟨z, hz, rfl⟩ := List.mem_map.1 hx
  have := hr z hz
  rw [List.getD_eq_getElem?_getD, List.getElem?_eq_getElem (show (z - P).toNat < all.length by omega)]
  exact h _ (List.getElem_mem _)
/-- One byte of a block is another one. -/
theorem set_ne {x : List Int} {i : Nat} (hi : i < x.length) {b : Int} (h : b ≠ x.getD i 0) : x.set i b ≠ x := fun e => by
  have h1 : (x.set i b).getD i 0 = b := by rw [List.getD_eq_getElem?_getD, List.getElem?_set_self hi]; rfl
  rw [e] at h1
  exact h h1.symm
theorem xor_ne {a b : Int} (ha : 0 ≤ a ∧ a ≤ 255) (hb : 0 ≤ b ∧ b ≤ 255) (h : b ≠ 0) : Go.bits .xor .u8 a b ≠ a := by
  obtain ⟨n, rfl⟩ : ∃ n : Fin 256, a = ((n.1 : Nat) : Int) := ⟨⟨a.toNat, by omega⟩, by simp; omega⟩
  obtain ⟨m, rfl⟩ : ∃ m : Fin 256, b = ((m.1 : Nat) : Int) := ⟨⟨b.toNat, by omega⟩, by simp; omega⟩
  intro e
  have e2 : (n.1 ^^^ m.1 : Nat) = n.1 := by
    have h1 : Go.bits .xor .u8 ((n.1 : Nat) : Int) ((m.1 : Nat) : Int) = ((n.1 ^^^ m.1 : Nat) : Int) := u8_xor_nat n.1 m.1 n.2 m.2
    rw [h1] at e
    exact_mod_cast e
  have h3 : n.1 ^^^ (n.1 ^^^ m.1) = n.1 ^^^ n.1 := by rw [e2]
  rw [← Nat.xor_assoc, Nat.xor_self, Nat.zero_xor] at h3
  exact h (by rw [h3]; rfl)
end Go.Proofs.YtgmdgkanfhoahaaDoor.Heads
