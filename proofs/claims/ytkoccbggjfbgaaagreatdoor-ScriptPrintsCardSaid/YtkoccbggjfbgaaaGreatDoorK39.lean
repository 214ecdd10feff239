/-
  ScriptPrints at the script seat: the machine's tables and its own answers hold; the world that the row describes; the law.
-/
import Derived.Test.YtkoccbggjfbgaaaGreatDoorK20
import Derived.Test.YtkoccbggjfbgaaaGreatDoorK34
import Derived.Test.YtkoccbggjfbgaaaGreatDoorK36
import Derived.Test.YtkoccbggjfbgaaaGreatDoorK38
import Derived.Test.YtkoccbggjfbgaaaGreatDoorK25
import Derived.WideShapes
set_option linter.all false
open Go.Eng Go.RowKit
set_option maxRecDepth 100000
namespace Go.Proofs.YtkoccbggjfbgaaaGreatDoor

def XQ : List (Nat × Nat) := [(19, 156), (43, 46137501), (108, 151063056), (7, 10), (39, 5242932), (38, 5242943), (32, 75497559), (31, 75497560), (33, 75497561), (34, 75497563), (95, 64), (54, 80), (55, 96)]
theorem pxQ : PX (tabOf XQ) := by constructor <;> kernel_rfl
theorem ppQ : PP (tabOf XQ) := by constructor <;> kernel_rfl
theorem envQ : EnvOK Tryz.prog (EX (tabOf XQ)) := envOf_list mixed_ok fields_ok names_ok held_ok (fun p hp => by
  simp only [XQ, List.mem_cons, List.not_mem_nil, or_false] at hp
  rcases hp with rfl | rfl | rfl | rfl | rfl | rfl | rfl | rfl | rfl | rfl | rfl | rfl | rfl
  · exact g19
  · exact g43
  · exact g108
  · exact says7.hook
  · exact g39
  · exact g38
  · exact g32
  · exact g31
  · exact g33
  · exact g34
  · exact g95
  · exact g54
  · exact g55)

/-! ### The variable uint64pow10 -/
theorem gTab : Tryz.prog.globalNamed "internal/strconv.uint64pow10" = some 3 := by kernel_rfl
theorem gTabT : (Tryz.prog.globals[3]?).map (·.type) = some 184 := by kernel_rfl
theorem cells184 : Tryz.prog.cellsOf 184 = 20 := by kernel_rfl
theorem tabRow : (Rows.laid_internal_strconv_uint64pow10 : DataW Unit) = Lib.tabData .u64 Lib.pow10Tab := by rfl
theorem tabAt {W : World} (h : laidMetH Tryz.prog Rows.scriptParsesRow.laid W) : TabAt 3 W := by
  rw [MakeChecks.laidMetH_plain _ _ _ (by kernel_rfl)] at h
  have h2 := laidMet.tail (laidMet.tail h)
  have h3 : Lib.TabIs Tryz.prog W "internal/strconv.uint64pow10" .u64 Lib.pow10Tab := Lib.tabIs_of_head gTab gTabT Tryz.underlying184 Tryz.underlying23 c23 cells184 h2
  unfold Lib.TabIs World.var? at h3
  rw [gTab] at h3
  simp only [Option.bind_some] at h3
  split at h3
  · rename_i cs t fz hc
    simp only [Option.some.injEq] at h3
    subst h3
    exact ⟨_, t, fz, hc, rfl⟩
  · simp at h3

theorem tabEq_self : ∀ zs : List Int, tabEq (zs.map fun z => .int .u64 z) zs = true
  | [] => rfl
  | z :: zs => by
    show tabEq (.int .u64 z :: zs.map fun z => .int .u64 z) (z :: zs) = true
    unfold tabEq
    rw [decide_eq_true rfl]
    exact tabEq_self zs

def fx3 : Nat → Bool := fun b => Nat.beq b 3
theorem ht_fom {h : H} {φ : Pl} {W : World} {sk : Nat → Bool} (S : Seen h φ W sk fx3) (hs : sk 3 = false) (ht : TabAt 3 W) : HT (fomH h W sk fx3) := by
  obtain ⟨cur, t, fz, hc, hl⟩ := ht
  have hlt := (Array.getElem?_eq_some_iff.1 hc).1
  refine ⟨?_, ?_⟩
  · show 5 < 2 + W.heap.size
    omega
  · unfold tabA
    rw [fomH_get S.rel S.next, if_neg (show ¬ 5 < 2 by omega)]
    have : fomObj W sk fx3 (5 - 2) = some (.fixed 3 t fz cur.toList) := by
      show fomObj W sk fx3 3 = _
      unfold fomObj
      rw [hs, hc]
      rfl
    rw [this, hl]
    simp only
    rw [show Nat.beq 3 3 = true from rfl, tabEq_self]
theorem fx_ints {W : World} (ht : TabAt 3 W) : ∀ b x v, W.cell? ⟨b, x, none⟩ = some v → fx3 b = true → intsV v = true := by
  intro b x v hv hb
  have hb : b = 3 := Nat.eq_of_beq_eq_true hb
  subst hb
  obtain ⟨cur, t, fz, hc, hl⟩ := ht
  unfold World.cell? at hv
  rw [hc] at hv
  have hv : cur[x]? = some v := by simpa using hv
  have hm : v ∈ cur.toList := by
    have : cur.toList[x]? = some v := by simpa using hv
    exact List.mem_of_getElem? this
  rw [hl] at hm
  obtain ⟨z, _, rfl⟩ := List.mem_map.1 hm
  rfl

/-- a configuration as it is read -/
theorem open_cfg {K : Type} {enc : TypeId × Value → K} {W : World} {r : Reach} {b0 base : Nat} {held : Bool} {v : Value} {d : DataW K} {p : List MemPlace} (hv : Value.okWide Tryz.prog W r b0 25 v) (hd : DataW.Trod enc Tryz.prog W base (fun _ => true) held 25 v d p) :
    ∃ (cores tasks : Int) (tick slice origin : Nat), v = .agg #[.int .i64 cores, .int .i64 tasks, .int .u64 (Int.ofNat tick), .int .u64 (Int.ofNat slice), .int .u64 (Int.ofNat origin)] ∧ (tick ≤ 18446744073709551615 ∧ slice ≤ 18446744073709551615 ∧ origin ≤ 18446744073709551615) := by
  obtain ⟨cs, rfl, hsz⟩ := Go.WideShapes.okWide_struct Tryz.underlying25 hv
  rw [show Tryz.prog.cellsOf 25 = 5 by kernel_rfl] at hsz
  obtain ⟨l⟩ := cs
  obtain ⟨v0, v1, v2, v3, v4, rfl⟩ : ∃ v0 v1 v2 v3 v4, l = [v0, v1, v2, v3, v4] := by
    match l, hsz with
    | [v0, v1, v2, v3, v4], _ => exact ⟨v0, v1, v2, v3, v4, rfl⟩
  obtain ⟨fuel, hd⟩ := hd
  obtain ⟨xs, n, _, hx, hl, hlen, hf⟩ := DataW.trod_struct Tryz.underlying25 hd
  obtain ⟨y0, y1, y2, y3, y4, rfl⟩ : ∃ y0 y1 y2 y3 y4, xs = [y0, y1, y2, y3, y4] := by
    match xs, hlen with
    | [y0, y1, y2, y3, y4], _ => exact ⟨y0, y1, y2, y3, y4, rfl⟩
  have h0 : DataW.trod enc Tryz.prog W base (fun _ => true) held n 3 ((([v0, v1, v2, v3, v4] : List Value).drop 0).take (Tryz.prog.cellsOf 3)) = some y0 := hf 0 _ rfl
  have h1 : DataW.trod enc Tryz.prog W base (fun _ => true) held n 3 ((([v0, v1, v2, v3, v4] : List Value).drop 1).take (Tryz.prog.cellsOf 3)) = some y1 := hf 1 _ rfl
  have h2 : DataW.trod enc Tryz.prog W base (fun _ => true) held n 23 ((([v0, v1, v2, v3, v4] : List Value).drop 2).take (Tryz.prog.cellsOf 23)) = some y2 := hf 2 _ rfl
  have h3 : DataW.trod enc Tryz.prog W base (fun _ => true) held n 23 ((([v0, v1, v2, v3, v4] : List Value).drop 3).take (Tryz.prog.cellsOf 23)) = some y3 := hf 3 _ rfl
  have h4 : DataW.trod enc Tryz.prog W base (fun _ => true) held n 23 ((([v0, v1, v2, v3, v4] : List Value).drop 4).take (Tryz.prog.cellsOf 23)) = some y4 := hf 4 _ rfl
  rw [c3] at h0 h1
  rw [c23] at h2 h3 h4
  have h0 : DataW.trod enc Tryz.prog W base (fun _ => true) held n 3 [v0] = some y0 := h0
  have h1 : DataW.trod enc Tryz.prog W base (fun _ => true) held n 3 [v1] = some y1 := h1
  have h2 : DataW.trod enc Tryz.prog W base (fun _ => true) held n 23 [v2] = some y2 := h2
  have h3 : DataW.trod enc Tryz.prog W base (fun _ => true) held n 23 [v3] = some y3 := h3
  have h4 : DataW.trod enc Tryz.prog W base (fun _ => true) held n 23 [v4] = some y4 := h4
  obtain ⟨z0, e0, _, _⟩ := DataW.trod_int Tryz.underlying3 h0
  obtain ⟨z1, e1, _, _⟩ := DataW.trod_int Tryz.underlying3 h1
  obtain ⟨z2, e2, _, w2⟩ := DataW.trod_int Tryz.underlying23 h2
  obtain ⟨z3, e3, _, w3⟩ := DataW.trod_int Tryz.underlying23 h3
  obtain ⟨z4, e4, _, w4⟩ := DataW.trod_int Tryz.underlying23 h4
  simp only [List.cons.injEq, and_true] at e0 e1 e2 e3 e4
  subst e0; subst e1; subst e2; subst e3; subst e4
  obtain ⟨n2, rfl⟩ : ∃ o : Nat, z2 = Int.ofNat o := ⟨z2.toNat, by have := k64 _ w2; show z2 = ((z2.toNat : Nat) : Int); omega⟩
  obtain ⟨n3, rfl⟩ : ∃ o : Nat, z3 = Int.ofNat o := ⟨z3.toNat, by have := k64 _ w3; show z3 = ((z3.toNat : Nat) : Int); omega⟩
  obtain ⟨n4, rfl⟩ : ∃ o : Nat, z4 = Int.ofNat o := ⟨z4.toNat, by have := k64 _ w4; show z4 = ((z4.toNat : Nat) : Int); omega⟩
  exact ⟨z0, z1, n2, n3, n4, rfl, wf64 w2, wf64 w3, wf64 w4⟩

theorem prints_law {K : Type} {enc : TypeId × Value → K} {W : World} (hlaid : laidMetH Tryz.prog Rows.scriptParsesRow.laid W) {cores tasks : Int} {tick slice origin : Nat} (hT : tick ≤ 18446744073709551615 ∧ slice ≤ 18446744073709551615 ∧ origin ≤ 18446744073709551615)
    {f base : Nat} {held : Bool} {v : Value} {x : DataW K × List MemPlace} (hd : DataW.trod enc Tryz.prog W base (fun _ => true) held f 26 [v] = some x) :
    Calls Tryz.prog 5 #[.agg #[.int .i64 cores, .int .i64 tasks, .int .u64 (Int.ofNat tick), .int .u64 (Int.ofNat slice), .int .u64 (Int.ofNat origin)], v] W fun e w' => e = .returned (.bool true) ∧ Below W.heap.size W w' := by
  have ht := tabAt hlaid
  have S : Seen H.empty (fun _ => none) W (fun _ => false) fx3 := ⟨Rel.empty W, Nat.zero_le 2, (fun _ _ _ _ h => by simp at h), fx_ints ht⟩
  obtain ⟨v', av, l, e, hvr, hcv, hR⟩ := open_cmds S hd
  simp only [List.cons.injEq, and_true] at e
  subst e
  exact law_of (args := [.agg #[.int .i64 cores, .int .i64 tasks, .int .u64 (Int.ofNat tick), .int .u64 (Int.ofNat slice), .int .u64 (Int.ofNat origin)], av]) (cs := [.agg #[.int .i64 cores, .int .i64 tasks, .int .u64 (Int.ofNat tick), .int .u64 (Int.ofNat slice), .int .u64 (Int.ofNat origin)], v]) envQ (f := 5) ppQ.n5
    (fom_rel S.rel S.next (fun o x p h => by simp [H.empty, H.get, Tr.get_nil] at h)) (fom_fixed S.rel S.next AllFixed.empty)
    (x_law5 pxQ ppQ (by kernel_rfl) cores tasks tick slice origin l av _ hT hR (ht_fom S rfl ht) hcv)
    (.cons (.agg (.cons (.int _ _) (.cons (.int _ _) (.cons (.int _ _) (.cons (.int _ _) (.cons (.int _ _) .nil)))))) (.cons hvr .nil))
end Go.Proofs.YtkoccbggjfbgaaaGreatDoor
