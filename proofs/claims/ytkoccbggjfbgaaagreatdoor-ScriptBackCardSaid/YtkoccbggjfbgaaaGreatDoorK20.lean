/-
  The script seat: what is read of the arguments (a configuration, commands), as the machine sees the memory. The script seat: the variable strconv.ErrRange in the world that a row describes.
-/
import Derived.Test.YtkoccbggjfbgaaaGreatDoorK18
import Derived.Test.YtkoccbggjfbgaaaGreatDoorK19
import Derived.SliceStrings
import Derived.ChangeSlices
import Derived.Test.YtkoccbggjfbgaaaGreatDoorRows
import Derived.Test.YtkoccbggjfbgaaaGreatDoorK08
import Derived.Stop.LaidErr
import Derived.LaidMore
set_option linter.all false

section
open Go.Eng Go.RowKit
set_option maxRecDepth 100000
set_option linter.unusedVariables false
namespace Go.Proofs.YtkoccbggjfbgaaaGreatDoor

theorem seg_each {α : Type} {l vs : List α} {x : Nat} (h0 : 0 < vs.length) (h : ∀ (j : Nat) v, vs[j]? = some v → l[x + j]? = some v) : seg l x vs.length = some vs := by
  have hlast := h (vs.length - 1) _ (List.getElem?_eq_getElem (by omega))
  have hlen := (List.getElem?_eq_some_iff.1 hlast).1
  rw [seg_eq _ _ _ (by omega)]
  congr 1
  refine List.ext_getElem? fun j => ?_
  rw [List.getElem?_take]
  by_cases hj : j < vs.length
  · rw [if_pos hj, List.getElem?_drop, h j _ (List.getElem?_eq_getElem hj), List.getElem?_eq_getElem hj]
  · rw [if_neg hj, List.getElem?_eq_none (by omega)]

/-- how the memory is seen: blocks that are objects of their own hold no number or string; fixed blocks hold integers -/
structure Seen (h : H) (φ : Pl) (W : World) (sk fx : Nat → Bool) : Prop where
  rel : Rel h φ W
  next : h.next ≤ 2
  skip : ∀ b x v, W.cell? ⟨b, x, none⟩ = some v → sk b = true → ∃ t p, v = .iface t p
  fixed : ∀ b x v, W.cell? ⟨b, x, none⟩ = some v → fx b = true → intsV v = true

theorem c3 : Tryz.prog.cellsOf 3 = 1 := by kernel_rfl
theorem c5 : Tryz.prog.cellsOf 5 = 1 := by kernel_rfl
theorem c9 : Tryz.prog.cellsOf 9 = 1 := by kernel_rfl
theorem c23 : Tryz.prog.cellsOf 23 = 1 := by kernel_rfl
theorem c47 : Tryz.prog.cellsOf 47 = 1 := by kernel_rfl
theorem c48 : Tryz.prog.cellsOf 48 = 1 := by kernel_rfl
theorem c50 : Tryz.prog.cellsOf 50 = 6 := by kernel_rfl

section
variable {K : Type} {enc : TypeId × Value → K} {h : H} {φ : Pl} {W : World} {sk fx : Nat → Bool}

theorem blk_sk {b sz : Nat} (hb : blkSz W (fun _ => false) b = some sz) (hs : sk b = false) : blkSz W sk b = some sz := by
  unfold blkSz at hb ⊢
  rw [hs]
  exact hb
theorem blk_nx {b sz : Nat} (hb : blkSz W sk b = some sz) : b + 2 < (fomH h W sk fx).next := by
  obtain ⟨_, c, t, fz, hc, _⟩ := blkSz_lt hb
  have := (Array.getElem?_eq_some_iff.1 hc).1
  show b + 2 < 2 + W.heap.size
  omega

theorem rd_many (S : Seen h φ W sk fx) {b x : Nat} {vs : List Value} (h0 : 0 < vs.length) (hs : sk b = false) (hf : fx b = false) (hc : ∀ (j : Nat) v, vs[j]? = some v → W.cell? ⟨b, x + j, none⟩ = some v) (ht : ∀ v ∈ vs, toldV (trV W sk v) = true) :
    rd (fomH h W sk fx) (b + 2) x vs.length = some (vs.map (trV W sk)) := by
  have hc0 := hc 0 _ (List.getElem?_eq_getElem h0)
  unfold World.cell? at hc0
  split at hc0
  · rename_i c t fz hb
    have hb : W.heap[b]? = some (.cells c t fz) := hb
    unfold rd
    rw [fomH_get S.rel S.next, if_neg (by omega), show b + 2 - 2 = b by omega]
    have : fomObj W sk fx b = some (.rom (c.toList.map (trV W sk)) (.cells c t fz)) := by simp [fomObj, hs, hb, hf]
    rw [this]
    simp only
    have hsg : seg (c.toList.map (trV W sk)) x (vs.map (trV W sk)).length = some (vs.map (trV W sk)) := by
      refine seg_each (by rw [List.length_map]; exact h0) fun j v hv => ?_
      rw [List.getElem?_map] at hv
      cases hy : vs[j]? with
      | none => rw [hy] at hv; simp at hv
      | some y =>
        rw [hy] at hv
        simp only [Option.map_some, Option.some.injEq] at hv
        subst hv
        have := hc j y hy
        unfold World.cell? at this
        simp only [hb] at this
        rw [List.getElem?_map]
        have h2 : c[x + j]? = some y := by simpa using this
        have h3 : c.toList[x + j]? = some y := by simpa using h2
        rw [h3]; rfl
    rw [List.length_map] at hsg
    rw [hsg]
    have hall : (vs.map (trV W sk)).all toldV = true := by
      rw [List.all_eq_true]
      intro v hv
      obtain ⟨y, hy, rfl⟩ := List.mem_map.1 hv
      exact ht y hy
    simp [hall]
  · simp at hc0

/-- rows of numbers -/
theorem open_nums (S : Seen h φ W sk fx) {t e : TypeId} {k : IntKind} (hk : ∀ z : Int, (Lit.int k z).wf = true → 0 ≤ z) {fuel base : Nat} {held : Bool} {cs : List Value} {x : DataW K × List MemPlace} (ht : Tryz.prog.underlying t = some (.slice e)) (he : Tryz.prog.underlying e = some (.int k)) (hc : Tryz.prog.cellsOf e = 1)
    (hd : DataW.trod enc Tryz.prog W base (fun _ => true) held fuel t cs = some x) :
    ∃ (v : Value) (ns : List Nat), cs = [v] ∧ toldV (trV W sk v) = true ∧ RView (fomH h W sk fx) (trV W sk v) (ns.map fun n => .int k (Int.ofNat n)) ∧ ∀ n ∈ ns, (Lit.int k (Int.ofNat n)).wf = true := by
  rcases Go.ChangeShapes.open_ints ht he hc hd with ⟨rfl, _⟩ | ⟨a, len, cap, zs, rfl, _, hl, _, hz, _, hcell, hwf⟩
  · refine ⟨_, [], rfl, ?_, ?_, by simp⟩
    · rw [trV_nils]; rfl
    · rw [trV_nils]; exact RView.nil _
  · rw [if_pos rfl] at hz
    rw [hz] at hcell
    by_cases hc0 : cap = 0
    · subst hc0
      have : len = 0 := by omega
      subst this
      refine ⟨_, [], rfl, ?_, ?_, by simp⟩
      · rw [trV_empty]; rfl
      · rw [trV_empty]; exact ⟨_, _, rfl, fun i x hx => by simp at hx⟩
    · obtain ⟨b, x0, sz, rfl, hb, hx⟩ := slice_at (W := W) (a := a) (c := cap) (by omega) fun i hi => ⟨_, hcell i hi⟩
      have hsk : sk b = false := by
        cases hs : sk b with
        | false => rfl
        | true =>
          have h0 := hcell 0 (by omega)
          rw [Addr.add_lit] at h0
          obtain ⟨t, p, e⟩ := S.skip b _ _ h0 hs
          simp at e
      have hbk := blk_sk hb hsk
      have htr := trV_slice (W := W) (skip := sk) (n := len) hbk (by omega) hl hx
      refine ⟨_, (zs.take len).map Int.toNat, rfl, ?_, ?_, ?_⟩
      · rw [htr]; rfl
      · rw [htr]
        refine ⟨some ⟨b + 2, x0, none⟩, 1, by simp; omega, fun i y hy => ?_⟩
        have hi : i < len := by
          have := (List.getElem?_eq_some_iff.1 hy).1
          simp at this
          omega
        have hi' : i < zs.length := by omega
        refine ⟨rfl, b + 2, x0, rfl, blk_nx hbk, ?_⟩
        have hcl := hcell i (by omega)
        rw [Addr.add_lit] at hcl
        have hti : trV W sk (.int k (zs.getD i 0)) = .int k (zs.getD i 0) := by simp [trV, plainC]
        have hrd := fom_rd (fx := fx) S.rel S.next hsk hcl (by rw [hti]; rfl) (fun _ => rfl)
        rw [hti] at hrd
        rw [hrd]
        have hge := hk _ (hwf _ (List.getElem_mem hi'))
        rw [List.getElem?_map, List.getElem?_map, List.getElem?_take, if_pos hi, List.getElem?_eq_getElem hi'] at hy
        simp only [Option.map_some, Option.some.injEq] at hy
        rw [← hy, List.getD_eq_getElem?_getD, List.getElem?_eq_getElem hi']
        have : Int.ofNat (zs[i]).toNat = zs[i] := by show (((zs[i]).toNat : Nat) : Int) = _; omega
        rw [this]; rfl
      · intro n hn
        obtain ⟨z, hz2, rfl⟩ := List.mem_map.1 hn
        have hw := hwf z (List.mem_of_mem_take hz2)
        have hge := hk _ hw
        have : Int.ofNat z.toNat = z := by show ((z.toNat : Nat) : Int) = _; omega
        rw [this]; exact hw

theorem k64 : ∀ z : Int, (Lit.int .u64 z).wf = true → 0 ≤ z := fun z hz => by
  simp only [Lit.wf, Bool.and_eq_true, decide_eq_true_eq] at hz
  exact hz.1
theorem k8 : ∀ z : Int, (Lit.int .u8 z).wf = true → 0 ≤ z := fun z hz => by
  simp only [Lit.wf, Bool.and_eq_true, decide_eq_true_eq] at hz
  exact hz.1
theorem wf64 {n : Nat} (hz : (Lit.int .u64 (Int.ofNat n)).wf = true) : n ≤ 18446744073709551615 := by
  simp only [Lit.wf, Bool.and_eq_true, decide_eq_true_eq] at hz
  have h1 : (Int.ofNat n : Int) ≤ 18446744073709551615 := hz.2
  have h2 : (Int.ofNat n : Int) = (n : Int) := rfl
  omega
theorem wf8 {n : Nat} (hz : (Lit.int .u8 (Int.ofNat n)).wf = true) : n < 256 := by
  simp only [Lit.wf, Bool.and_eq_true, decide_eq_true_eq] at hz
  have h1 : (Int.ofNat n : Int) ≤ 255 := hz.2
  have h2 : (Int.ofNat n : Int) = (n : Int) := rfl
  omega

/-- what is known of a command that was read -/
def CmdR (c : Cmd) : Prop := c.op < 256 ∧ (∀ x ∈ c.n, x ≤ 18446744073709551615) ∧ (∀ x ∈ c.st, x < 256)

theorem open_cmd (S : Seen h φ W sk fx) {fuel base : Nat} {held : Bool} {cs : List Value} {x : DataW K × List MemPlace} (hd : DataW.trod enc Tryz.prog W base (fun _ => true) held fuel 50 cs = some x) :
    ∃ c : Cmd, CmdR c ∧ cs.length = 6 ∧ (∀ v ∈ cs, toldV (trV W sk v) = true) ∧ CmdV (fomH h W sk fx) (cs.map (trV W sk)) c ∧ ∃ s, cs[2]? = some (.string s) := by
  obtain ⟨xs, n, _, rfl, hl, hlen, hf⟩ := DataW.trod_struct Tryz.underlying50 hd
  rw [c50] at hl
  obtain ⟨v0, v1, v2, v3, v4, v5, rfl⟩ : ∃ v0 v1 v2 v3 v4 v5, cs = [v0, v1, v2, v3, v4, v5] := by
    match cs, hl with
    | [v0, v1, v2, v3, v4, v5], _ => exact ⟨v0, v1, v2, v3, v4, v5, rfl⟩
  obtain ⟨y0, y1, y2, y3, y4, y5, rfl⟩ : ∃ y0 y1 y2 y3 y4 y5, xs = [y0, y1, y2, y3, y4, y5] := by
    match xs, hlen with
    | [y0, y1, y2, y3, y4, y5], _ => exact ⟨y0, y1, y2, y3, y4, y5, rfl⟩
  have h0 : DataW.trod enc Tryz.prog W base (fun _ => true) held n 3 ((([v0, v1, v2, v3, v4, v5] : List Value).drop 0).take (Tryz.prog.cellsOf 3)) = some y0 := hf 0 _ rfl
  have h1 : DataW.trod enc Tryz.prog W base (fun _ => true) held n 5 ((([v0, v1, v2, v3, v4, v5] : List Value).drop 1).take (Tryz.prog.cellsOf 5)) = some y1 := hf 1 _ rfl
  have h2 : DataW.trod enc Tryz.prog W base (fun _ => true) held n 9 ((([v0, v1, v2, v3, v4, v5] : List Value).drop 2).take (Tryz.prog.cellsOf 9)) = some y2 := hf 2 _ rfl
  have h3 : DataW.trod enc Tryz.prog W base (fun _ => true) held n 9 ((([v0, v1, v2, v3, v4, v5] : List Value).drop 3).take (Tryz.prog.cellsOf 9)) = some y3 := hf 3 _ rfl
  have h4 : DataW.trod enc Tryz.prog W base (fun _ => true) held n 47 ((([v0, v1, v2, v3, v4, v5] : List Value).drop 4).take (Tryz.prog.cellsOf 47)) = some y4 := hf 4 _ rfl
  have h5 : DataW.trod enc Tryz.prog W base (fun _ => true) held n 48 ((([v0, v1, v2, v3, v4, v5] : List Value).drop 5).take (Tryz.prog.cellsOf 48)) = some y5 := hf 5 _ rfl
  rw [c3] at h0
  rw [c5] at h1
  rw [c9] at h2 h3
  rw [c47] at h4
  rw [c48] at h5
  have h0 : DataW.trod enc Tryz.prog W base (fun _ => true) held n 3 [v0] = some y0 := h0
  have h1 : DataW.trod enc Tryz.prog W base (fun _ => true) held n 5 [v1] = some y1 := h1
  have h2 : DataW.trod enc Tryz.prog W base (fun _ => true) held n 9 [v2] = some y2 := h2
  have h3 : DataW.trod enc Tryz.prog W base (fun _ => true) held n 9 [v3] = some y3 := h3
  have h4 : DataW.trod enc Tryz.prog W base (fun _ => true) held n 47 [v4] = some y4 := h4
  have h5 : DataW.trod enc Tryz.prog W base (fun _ => true) held n 48 [v5] = some y5 := h5
  obtain ⟨z, e0, _, _⟩ := DataW.trod_int Tryz.underlying3 h0
  obtain ⟨zo, e1, _, w1⟩ := DataW.trod_int Tryz.underlying5 h1
  obtain ⟨s2, e2, _, _⟩ := DataW.trod_string Tryz.underlying9 h2
  obtain ⟨s3, e3, _, _⟩ := DataW.trod_string Tryz.underlying9 h3
  obtain ⟨vn, ns, e4, t4, r4, w4⟩ := open_nums S k64 Tryz.underlying47 Tryz.underlying23 c23 h4
  obtain ⟨vs, ss, e5, t5, r5, w5⟩ := open_nums S k8 Tryz.underlying48 Tryz.underlying5 c5 h5
  simp only [List.cons.injEq, and_true] at e0 e1 e2 e3 e4 e5
  subst e0; subst e1; subst e2; subst e3; subst e4; subst e5
  have hzo := k8 _ w1
  obtain ⟨o, rfl⟩ : ∃ o : Nat, zo = Int.ofNat o := ⟨zo.toNat, by show zo = ((zo.toNat : Nat) : Int); omega⟩
  refine ⟨⟨0, o, s2.data.toList, s3.data.toList, ns, ss⟩, ⟨wf8 w1, fun x hx => wf64 (w4 x hx), fun x hx => wf8 (w5 x hx)⟩, rfl, ?_, ?_, s2, rfl⟩
  · intro v hv
    simp only [List.mem_cons, List.not_mem_nil, or_false] at hv
    rcases hv with rfl | rfl | rfl | rfl | rfl | rfl
    · simp [trV, plainC, toldV]
    · simp [trV, plainC, toldV]
    · simp [trV, plainC, toldV]
    · simp [trV, plainC, toldV]
    · exact t4
    · exact t5
  · refine ⟨z, trV W sk v4, trV W sk v5, ?_, r4, r5⟩
    simp [trV, plainC, bsOf_data]

/-- commands as they are read -/
theorem open_cmds (S : Seen h φ W sk fx) {fuel base : Nat} {held : Bool} {cs : List Value} {x : DataW K × List MemPlace} (hd : DataW.trod enc Tryz.prog W base (fun _ => true) held fuel 26 cs = some x) :
    ∃ v av l, cs = [v] ∧ VR (romPl φ W sk) av v ∧ CmdsV (fomH h W sk fx) av l ∧ ∀ c ∈ l, CmdR c := by
  rcases DataW.trod_slice Tryz.underlying26 hd with ⟨rfl, _⟩ | ⟨a, len, cap, elems, rest, n, _, rfl, _, _, hl, _, hlen, hel, hsp, _⟩
  · exact ⟨_, .slice none 0 0, [], rfl, .nslc _ _, ⟨fun _ => [], ⟨none, 0, rfl, fun i hi => absurd hi (Nat.not_lt_zero _)⟩, fun i hi => absurd hi (Nat.not_lt_zero _)⟩, by simp⟩
  obtain ⟨hrl, hr⟩ := hsp rfl
  rw [c50] at hel hr
  have each : ∀ i, i < cap → ∃ (c : Cmd) (cs' : List Value), CmdR c ∧ cs'.length = 6 ∧ (∀ v ∈ cs', toldV (trV W sk v) = true) ∧ CmdV (fomH h W sk fx) (cs'.map (trV W sk)) c ∧ (∃ s, cs'[2]? = some (.string s)) ∧ ∀ (j : Nat) v, cs'[j]? = some v → W.cell? ((a.add (i * 6)).add j) = some v := by
    intro i hi
    have hb : ∃ y, (W.cells? base (a.add (i * 6)) 6).bind (DataW.trod enc Tryz.prog W base (fun _ => true) held n 50) = some y := by
      by_cases hil : i < len
      · exact ⟨elems[i]'(by omega), by rw [hel i hil, List.getElem?_eq_getElem]⟩
      · have := hr (i - len) (by omega)
        rw [show len + (i - len) = i by omega] at this
        exact ⟨rest[i - len]'(by omega), by rw [this, List.getElem?_eq_getElem]⟩
    obtain ⟨y, hy⟩ := hb
    rw [Option.bind_eq_some_iff] at hy
    obtain ⟨cs', hcs, hy⟩ := hy
    obtain ⟨c, h1, h2, h3, h4, h5⟩ := open_cmd S hy
    obtain ⟨_, _, hcell⟩ := World.cells?_some hcs
    exact ⟨c, cs', h1, h2, h3, h4, h5, fun j v hv => (hcell j (by have := (List.getElem?_eq_some_iff.1 hv).1; omega)).trans hv⟩
  by_cases hc0 : cap = 0
  · subst hc0
    have : len = 0 := by omega
    subst this
    exact ⟨_, _, [], rfl, .eslc _, ⟨fun _ => [], ⟨some ⟨0, 0, some 0⟩, 0, rfl, fun i hi => absurd hi (Nat.not_lt_zero _)⟩, fun i hi => absurd hi (Nat.not_lt_zero _)⟩, by simp⟩
  obtain ⟨b, x0, sp⟩ := a
  have hsp0 : sp = none := by
    obtain ⟨c, cs', _, h6, _, _, _, hcell⟩ := each 0 (by omega)
    have hv0 : ∃ v, W.cell? ⟨b, x0, sp⟩ = some v := ⟨_, by simpa [Addr.add] using hcell 0 _ (List.getElem?_eq_getElem (by omega))⟩
    obtain ⟨v0, hv0⟩ := hv0
    cases sp with
    | none => rfl
    | some s => unfold World.cell? at hv0; split at hv0 <;> simp at hv0
  subst hsp0
  have each : ∀ i, i < cap → ∃ (c : Cmd) (cs' : List Value), CmdR c ∧ cs'.length = 6 ∧ (∀ v ∈ cs', toldV (trV W sk v) = true) ∧ CmdV (fomH h W sk fx) (cs'.map (trV W sk)) c ∧ (∃ s, cs'[2]? = some (.string s)) ∧ ∀ (j : Nat) v, cs'[j]? = some v → W.cell? ⟨b, x0 + i * 6 + j, none⟩ = some v := by
    intro i hi
    obtain ⟨c, cs', h1, h2, h3, h4, h5, h6⟩ := each i hi
    refine ⟨c, cs', h1, h2, h3, h4, h5, fun j v hv => ?_⟩
    have := h6 j v hv
    rwa [Addr.add_lit, Addr.add_lit] at this
  have hall : ∀ i, i < cap * 6 → ∃ v, W.cell? ((⟨b, x0, none⟩ : Addr).add i) = some v := by
    intro i hi
    obtain ⟨c, cs', _, h6, _, _, _, hcell⟩ := each (i / 6) (by omega)
    have hm : i % 6 < 6 := Nat.mod_lt _ (by omega)
    have hlt : i % 6 < cs'.length := by omega
    have := hcell (i % 6) _ (List.getElem?_eq_getElem hlt)
    rw [show x0 + i / 6 * 6 + i % 6 = x0 + i by omega] at this
    rw [Addr.add_lit]
    exact ⟨_, this⟩
  obtain ⟨b', x', sz, e, hb, hx⟩ := slice_at (W := W) (a := ⟨b, x0, none⟩) (c := cap * 6) (by omega) hall
  simp only [Addr.mk.injEq, and_true] at e
  obtain ⟨rfl, rfl⟩ := e
  have hstr : ∃ x s, W.cell? ⟨b, x, none⟩ = some (.string s) := by
    obtain ⟨c, cs', _, _, _, _, ⟨s, hs⟩, hcell⟩ := each 0 (by omega)
    exact ⟨_, s, hcell 2 _ hs⟩
  obtain ⟨xs, s, hstr⟩ := hstr
  have hsk : sk b = false := by
    cases hs : sk b with
    | false => rfl
    | true =>
      obtain ⟨t, p, e⟩ := S.skip b _ _ hstr hs
      simp at e
  have hfx : fx b = false := by
    cases hs : fx b with
    | false => rfl
    | true => have := S.fixed b _ _ hstr hs; simp [intsV] at this
  have hbk := blk_sk hb hsk
  have hsk2 : ∀ i, ∃ q : Cmd × List Value, i < cap → CmdR q.1 ∧ q.2.length = 6 ∧ (∀ v ∈ q.2, toldV (trV W sk v) = true) ∧ CmdV (fomH h W sk fx) (q.2.map (trV W sk)) q.1 ∧ ∀ (j : Nat) v, q.2[j]? = some v → W.cell? ⟨b, x0 + i * 6 + j, none⟩ = some v := by
    intro i
    by_cases hi : i < cap
    · obtain ⟨c, cs', h1, h2, h3, h4, _, h6⟩ := each i hi
      exact ⟨(c, cs'), fun _ => ⟨h1, h2, h3, h4, h6⟩⟩
    · exact ⟨(⟨0, 0, [], [], [], []⟩, []), fun h => absurd h hi⟩
  obtain ⟨f, hf⟩ := Classical.skolem.1 hsk2
  refine ⟨_, .slice (some ⟨b + 2, x0, none⟩) len 6, (List.range len).map fun i => (f i).1, rfl, rom_slice hbk (by omega) hl (by omega), ⟨fun i => (f i).2.map (trV W sk), ?_, ?_⟩, ?_⟩
  · refine ⟨_, 6, by simp, fun i hi => ⟨rfl, b + 2, x0, rfl, blk_nx hbk, ?_⟩⟩
    have hi : i < len := by simpa using hi
    obtain ⟨_, h6, ht, _, hcell⟩ := hf i (by omega)
    have := rd_many S (x := x0 + i * 6) (vs := (f i).2) (by omega) hsk hfx hcell ht
    rwa [h6] at this
  · intro i hi
    have hi : i < len := by simpa using hi
    obtain ⟨_, _, _, hcv, _⟩ := hf i (by omega)
    simpa using hcv
  · intro c hc
    obtain ⟨i, hi, rfl⟩ := List.mem_map.1 hc
    exact (hf i (by have := List.mem_range.1 hi; omega)).1
end
end Go.Proofs.YtkoccbggjfbgaaaGreatDoor
end

section
open Go.Eng Go.RowKit
set_option maxRecDepth 100000
namespace Go.Proofs.YtkoccbggjfbgaaaGreatDoor

/-! ### The variable strconv.ErrRange -/
theorem gErr : Tryz.prog.globalNamed "strconv.ErrRange" = some 9 := by kernel_rfl
theorem gErrT : (Tryz.prog.globals[9]?).map (·.type) = some 75 := by kernel_rfl
theorem starErr : "*" ++ "errors.errorString" = "*errors.errorString" := by decide
theorem rowErr (u : TypeId) (h : Tryz.prog.typeName? 3 u = some "*errors.errorString") : u = 328 :=
  typeName_ptr_named (nm := "errors.errorString") (by rw [starErr]; kernel_rfl) (by kernel_rfl) (by decide) u (by rw [starErr]; exact h)
theorem cells330 : Tryz.prog.cellsOf 330 = 1 := by kernel_rfl
theorem cells9 : Tryz.prog.cellsOf 9 = 1 := by kernel_rfl

theorem errRange {W : World} (h : laidMetH Tryz.prog Rows.scriptParsesRow.laid W) : ∃ t fz p, W.heap[9]? = some (.cells ⟨[.iface 328 p]⟩ t fz) := by
  rw [MakeChecks.laidMetH_plain _ _ _ (by kernel_rfl)] at h
  obtain ⟨a, s, hv, _⟩ := laid_sentinel (laidMet.tail (laidMet.tail (laidMet.tail (laidMet.tail h)))) gErr gErrT Tryz.underlying75 rowErr Tryz.underlying328 Tryz.underlying330 rfl rfl Tryz.underlying9 cells330 cells9
  unfold World.var? at hv
  rw [gErr] at hv
  simp only [Option.bind_some] at hv
  split at hv
  · rename_i cs t fz hc
    simp only [Option.some.injEq] at hv
    subst hv
    exact ⟨t, fz, _, hc⟩
  · simp at hv

end Go.Proofs.YtkoccbggjfbgaaaGreatDoor
end
