/-
  ScriptPrints at the script seat: the machine's tables and its own answers hold; the world that the row describes; the law. Plain laws on scripts: blanks, lines that don't count, a thousand commands and more. Plain laws on scripts: what is printed is parsed as it was, but for lines; what is parsed can be printed.
-/
import Derived.Test.YtkoccbggjfbgaaaGreatDoorK20
import Derived.Test.YtkoccbggjfbgaaaGreatDoorK34
import Derived.Test.YtkoccbggjfbgaaaGreatDoorK36
import Derived.Test.YtkoccbggjfbgaaaGreatDoorK38
import Derived.Test.YtkoccbggjfbgaaaGreatDoorK25
import Derived.WideShapes
import Derived.Test.YtkoccbggjfbgaaaGreatDoorK10
import Derived.Test.YtkoccbggjfbgaaaGreatDoorK11
import Derived.Test.YtkoccbggjfbgaaaGreatDoorK16
set_option linter.all false

section
open Go.Eng Go.RowKit
set_option maxRecDepth 100000
namespace Go.Proofs.YtkoccbggjfbgaaaGreatDoor

def XQ : List (Nat × Nat) := [(19, 156), (43, 46137501), (108, 151063056), (7, 10), (39, 5242932), (38, 5242943), (32, 75497559), (31, 75497560), (33, 75497561), (34, 75497563), (95, 64), (54, 80), (55, 96)]
theorem pxQ : PX (tabOf XQ) := by constructor <;> kernel_rfl
theorem ppQ : PP (tabOf XQ) := by constructor <;> kernel_rfl
theorem envQ : EnvOK Tryz.prog (EX (tabOf XQ)) := envOf_list mixed_ok fields_ok names_ok held_ok (fun p hp => by
  simp only [XQ, List.mem_cons, List.not_mem_nil, or_false] at hp
  rcases hp with rfl | rfl | rfl | rfl | rfl | rfl | rfl | rfl | rfl | rfl | rfl | rfl | rfl
  · exact g19
  · exact g43
  · exact g108
  · exact says7.hook
  · exact g39
  · exact g38
  · exact g32
  · exact g31
  · exact g33
  · exact g34
  · exact g95
  · exact g54
  · exact g55)

/-! ### The variable uint64pow10 -/
theorem gTab : Tryz.prog.globalNamed "internal/strconv.uint64pow10" = some 3 := by kernel_rfl
theorem gTabT : (Tryz.prog.globals[3]?).map (·.type) = some 184 := by kernel_rfl
theorem cells184 : Tryz.prog.cellsOf 184 = 20 := by kernel_rfl
theorem tabRow : (Rows.laid_internal_strconv_uint64pow10 : DataW Unit) = Lib.tabData .u64 Lib.pow10Tab := by rfl
theorem tabAt {W : World} (h : laidMetH Tryz.prog Rows.scriptParsesRow.laid W) : TabAt 3 W := by
  rw [MakeChecks.laidMetH_plain _ _ _ (by kernel_rfl)] at h
  have h2 := laidMet.tail (laidMet.tail h)
  have h3 : Lib.TabIs Tryz.prog W "internal/strconv.uint64pow10" .u64 Lib.pow10Tab := Lib.tabIs_of_head gTab gTabT Tryz.underlying184 Tryz.underlying23 c23 cells184 h2
  unfold Lib.TabIs World.var? at h3
  rw [gTab] at h3
  simp only [Option.bind_some] at h3
  split at h3
  · rename_i cs t fz hc
    simp only [Option.some.injEq] at h3
    subst h3
    exact ⟨_, t, fz, hc, rfl⟩
  · simp at h3

theorem tabEq_self : ∀ zs : List Int, tabEq (zs.map fun z => .int .u64 z) zs = true
  | [] => rfl
  | z :: zs => by
    show tabEq (.int .u64 z :: zs.map fun z => .int .u64 z) (z :: zs) = true
    unfold tabEq
    rw [decide_eq_true rfl]
    exact tabEq_self zs

def fx3 : Nat → Bool := fun b => Nat.beq b 3
theorem ht_fom {h : H} {φ : Pl} {W : World} {sk : Nat → Bool} (S : Seen h φ W sk fx3) (hs : sk 3 = false) (ht : TabAt 3 W) : HT (fomH h W sk fx3) := by
  obtain ⟨cur, t, fz, hc, hl⟩ := ht
  have hlt := (Array.getElem?_eq_some_iff.1 hc).1
  refine ⟨?_, ?_⟩
  · show 5 < 2 + W.heap.size
    omega
  · unfold tabA
    rw [fomH_get S.rel S.next, if_neg (show ¬ 5 < 2 by omega)]
    have : fomObj W sk fx3 (5 - 2) = some (.fixed 3 t fz cur.toList) := by
      show fomObj W sk fx3 3 = _
      unfold fomObj
      rw [hs, hc]
      rfl
    rw [this, hl]
    simp only
    rw [show Nat.beq 3 3 = true from rfl, tabEq_self]
theorem fx_ints {W : World} (ht : TabAt 3 W) : ∀ b x v, W.cell? ⟨b, x, none⟩ = some v → fx3 b = true → intsV v = true := by
  intro b x v hv hb
  have hb : b = 3 := Nat.eq_of_beq_eq_true hb
  subst hb
  obtain ⟨cur, t, fz, hc, hl⟩ := ht
  unfold World.cell? at hv
  rw [hc] at hv
  have hv : cur[x]? = some v := by simpa using hv
  have hm : v ∈ cur.toList := by
    have : cur.toList[x]? = some v := by simpa using hv
    exact List.mem_of_getElem? this
  rw [hl] at hm
  obtain ⟨z, _, rfl⟩ := List.mem_map.1 hm
  rfl

/-- a configuration as it is read -/
theorem open_cfg {K : Type} {enc : TypeId × Value → K} {W : World} {r : Reach} {b0 base : Nat} {held : Bool} {v : Value} {d : DataW K} {p : List MemPlace} (hv : Value.okWide Tryz.prog W r b0 25 v) (hd : DataW.Trod enc Tryz.prog W base (fun _ => true) held 25 v d p) :
    ∃ (cores tasks : Int) (tick slice origin : Nat), v = .agg #[.int .i64 cores, .int .i64 tasks, .int .u64 (Int.ofNat tick), .int .u64 (Int.ofNat slice), .int .u64 (Int.ofNat origin)] ∧ (tick ≤ 18446744073709551615 ∧ slice ≤ 18446744073709551615 ∧ origin ≤ 18446744073709551615) := by
  obtain ⟨cs, rfl, hsz⟩ := Go.WideShapes.okWide_struct Tryz.underlying25 hv
  rw [show Tryz.prog.cellsOf 25 = 5 by kernel_rfl] at hsz
  obtain ⟨l⟩ := cs
  obtain ⟨v0, v1, v2, v3, v4, rfl⟩ : ∃ v0 v1 v2 v3 v4, l = [v0, v1, v2, v3, v4] := by
    match l, hsz with
    | [v0, v1, v2, v3, v4], _ => exact ⟨v0, v1, v2, v3, v4, rfl⟩
  obtain ⟨fuel, hd⟩ := hd
  obtain ⟨xs, n, _, hx, hl, hlen, hf⟩ := DataW.trod_struct Tryz.underlying25 hd
  obtain ⟨y0, y1, y2, y3, y4, rfl⟩ : ∃ y0 y1 y2 y3 y4, xs = [y0, y1, y2, y3, y4] := by
    match xs, hlen with
    | [y0, y1, y2, y3, y4], _ => exact ⟨y0, y1, y2, y3, y4, rfl⟩
  have h0 : DataW.trod enc Tryz.prog W base (fun _ => true) held n 3 ((([v0, v1, v2, v3, v4] : List Value).drop 0).take (Tryz.prog.cellsOf 3)) = some y0 := hf 0 _ rfl
  have h1 : DataW.trod enc Tryz.prog W base (fun _ => true) held n 3 ((([v0, v1, v2, v3, v4] : List Value).drop 1).take (Tryz.prog.cellsOf 3)) = some y1 := hf 1 _ rfl
  have h2 : DataW.trod enc Tryz.prog W base (fun _ => true) held n 23 ((([v0, v1, v2, v3, v4] : List Value).drop 2).take (Tryz.prog.cellsOf 23)) = some y2 := hf 2 _ rfl
  have h3 : DataW.trod enc Tryz.prog W base (fun _ => true) held n 23 ((([v0, v1, v2, v3, v4] : List Value).drop 3).take (Tryz.prog.cellsOf 23)) = some y3 := hf 3 _ rfl
  have h4 : DataW.trod enc Tryz.prog W base (fun _ => true) held n 23 ((([v0, v1, v2, v3, v4] : List Value).drop 4).take (Tryz.prog.cellsOf 23)) = some y4 := hf 4 _ rfl
  rw [c3] at h0 h1
  rw [c23] at h2 h3 h4
  have h0 : DataW.trod enc Tryz.prog W base (fun _ => true) held n 3 [v0] = some y0 := h0
  have h1 : DataW.trod enc Tryz.prog W base (fun _ => true) held n 3 [v1] = some y1 := h1
  have h2 : DataW.trod enc Tryz.prog W base (fun _ => true) held n 23 [v2] = some y2 := h2
  have h3 : DataW.trod enc Tryz.prog W base (fun _ => true) held n 23 [v3] = some y3 := h3
  have h4 : DataW.trod enc Tryz.prog W base (fun _ => true) held n 23 [v4] = some y4 := h4
  obtain ⟨z0, e0, _, _⟩ := DataW.trod_int Tryz.underlying3 h0
  obtain ⟨z1, e1, _, _⟩ := DataW.trod_int Tryz.underlying3 h1
  obtain ⟨z2, e2, _, w2⟩ := DataW.trod_int Tryz.underlying23 h2
  obtain ⟨z3, e3, _, w3⟩ := DataW.trod_int Tryz.underlying23 h3
  obtain ⟨z4, e4, _, w4⟩ := DataW.trod_int Tryz.underlying23 h4
  simp only [List.cons.injEq, and_true] at e0 e1 e2 e3 e4
  subst e0; subst e1; subst e2; subst e3; subst e4
  obtain ⟨n2, rfl⟩ : ∃ o : Nat, z2 = Int.ofNat o := ⟨z2.toNat, by have := k64 _ w2; show z2 = ((z2.toNat : Nat) : Int); omega⟩
  obtain ⟨n3, rfl⟩ : ∃ o : Nat, z3 = Int.ofNat o := ⟨z3.toNat, by have := k64 _ w3; show z3 = ((z3.toNat : Nat) : Int); omega⟩
  obtain ⟨n4, rfl⟩ : ∃ o : Nat, z4 = Int.ofNat o := ⟨z4.toNat, by have := k64 _ w4; show z4 = ((z4.toNat : Nat) : Int); omega⟩
  exact ⟨z0, z1, n2, n3, n4, rfl, wf64 w2, wf64 w3, wf64 w4⟩

theorem prints_law {K : Type} {enc : TypeId × Value → K} {W : World} (hlaid : laidMetH Tryz.prog Rows.scriptParsesRow.laid W) {cores tasks : Int} {tick slice origin : Nat} (hT : tick ≤ 18446744073709551615 ∧ slice ≤ 18446744073709551615 ∧ origin ≤ 18446744073709551615)
    {f base : Nat} {held : Bool} {v : Value} {x : DataW K × List MemPlace} (hd : DataW.trod enc Tryz.prog W base (fun _ => true) held f 26 [v] = some x) :
    Calls Tryz.prog 5 #[.agg #[.int .i64 cores, .int .i64 tasks, .int .u64 (Int.ofNat tick), .int .u64 (Int.ofNat slice), .int .u64 (Int.ofNat origin)], v] W fun e w' => e = .returned (.bool true) ∧ Below W.heap.size W w' := by
  have ht := tabAt hlaid
  have S : Seen H.empty (fun _ => none) W (fun _ => false) fx3 := ⟨Rel.empty W, Nat.zero_le 2, (fun _ _ _ _ h => by simp at h), fx_ints ht⟩
  obtain ⟨v', av, l, e, hvr, hcv, hR⟩ := open_cmds S hd
  simp only [List.cons.injEq, and_true] at e
  subst e
  exact law_of (args := [.agg #[.int .i64 cores, .int .i64 tasks, .int .u64 (Int.ofNat tick), .int .u64 (Int.ofNat slice), .int .u64 (Int.ofNat origin)], av]) (cs := [.agg #[.int .i64 cores, .int .i64 tasks, .int .u64 (Int.ofNat tick), .int .u64 (Int.ofNat slice), .int .u64 (Int.ofNat origin)], v]) envQ (f := 5) ppQ.n5
    (fom_rel S.rel S.next (fun o x p h => by simp [H.empty, H.get, Tr.get_nil] at h)) (fom_fixed S.rel S.next AllFixed.empty)
    (x_law5 pxQ ppQ (by kernel_rfl) cores tasks tick slice origin l av _ hT hR (ht_fom S rfl ht) hcv)
    (.cons (.agg (.cons (.int _ _) (.cons (.int _ _) (.cons (.int _ _) (.cons (.int _ _) (.cons (.int _ _) .nil)))))) (.cons hvr .nil))
end Go.Proofs.YtkoccbggjfbgaaaGreatDoor
end

section
open Go.Eng
set_option maxRecDepth 100000
set_option linter.unusedSimpArgs false
set_option linter.unusedVariables false
namespace Go.Proofs.YtkoccbggjfbgaaaGreatDoor

theorem consHd_app (x : UInt8) {L M : List (List UInt8)} (h : L ≠ []) : consHd x (L ++ M) = consHd x L ++ M := by
  cases L with
  | nil => exact absurd rfl h
  | cons l ls => rfl
theorem pieces_app (c : UInt8) : ∀ (p a : List UInt8), piecesL c (p ++ c :: a) = piecesL c p ++ piecesL c a
  | [], a => by rw [List.nil_append, piecesL_eq]; rfl
  | x :: r, a => by
    by_cases h : x = c
    · subst h; rw [List.cons_append, piecesL_eq, piecesL_eq, pieces_app x r a]; rfl
    · rw [List.cons_append, piecesL_ne h, piecesL_ne h, pieces_app c r a, consHd_app x (piecesL_ne_nil c r)]
theorem words_app (p a : List UInt8) : wordsL (p ++ 32 :: a) = wordsL p ++ wordsL a := by
  unfold wordsL; rw [pieces_app, List.filter_append]

/-- alike under any beginning -/
def Alike (a b : List UInt8) : Prop := ∀ p, wordsL (p ++ a) = wordsL (p ++ b)
theorem Alike.refl (a : List UInt8) : Alike a a := fun _ => rfl
theorem Alike.words {a b : List UInt8} (h : Alike a b) : wordsL a = wordsL b := h []
theorem Alike.cons {a b : List UInt8} (h : Alike a b) (x : UInt8) : Alike (x :: a) (x :: b) := fun p => by
  have := h (p ++ [x]); simpa using this
theorem Alike.sp3 {a b : List UInt8} (h : Alike a b) : Alike (32 :: a) (32 :: 32 :: 32 :: b) := fun p => by
  rw [words_app, words_app, wordsL_sp, wordsL_sp, h.words]
theorem Alike.last : Alike [] [32] := fun p => by rw [words_app, wordsL_nil, List.append_nil, List.append_nil]

theorem replB_eq (c : UInt8) (new r : List UInt8) : replB c new (c :: r) = new ++ replB c new r := by
  have : Nat.beq c.toNat c.toNat = true := Nat.beq_refl _
  simp [replB, this]
theorem replB_ne {c x : UInt8} (h : x ≠ c) (new r : List UInt8) : replB c new (x :: r) = x :: replB c new r := by
  have : Nat.beq x.toNat c.toNat = false := by
    cases hb : Nat.beq x.toNat c.toNat with
    | false => rfl
    | true => exact absurd (UInt8.toNat_inj.1 (Nat.eq_of_beq_eq_true hb)) h
  simp [replB, this]

/-- more blanks, behind and ahead and between -/
def blankL (t : List UInt8) : List UInt8 := replB 10 [32, 10, 32, 32] (replB 32 [32, 32, 32] t)
theorem blankL_nil : blankL [] = [] := rfl
theorem blankL_sp (r : List UInt8) : blankL (32 :: r) = 32 :: 32 :: 32 :: blankL r := by
  unfold blankL
  rw [replB_eq]
  simp only [go_sem]
  rw [replB_ne (by decide), replB_ne (by decide), replB_ne (by decide)]
theorem blankL_nl (r : List UInt8) : blankL (10 :: r) = 32 :: 10 :: 32 :: 32 :: blankL r := by
  unfold blankL
  rw [replB_ne (by decide), replB_eq]
  rfl
theorem blankL_ne {x : UInt8} (h1 : x ≠ 32) (h2 : x ≠ 10) (r : List UInt8) : blankL (x :: r) = x :: blankL r := by
  unfold blankL
  rw [replB_ne h1, replB_ne h2]
theorem blankL_len : ∀ t : List UInt8, (blankL t).length ≤ 4 * t.length
  | [] => by simp [blankL_nil]
  | x :: r => by
    have := blankL_len r
    by_cases h1 : x = 32
    · subst h1; rw [blankL_sp]; simp only [go_sem]; omega
    · by_cases h2 : x = 10
      · subst h2; rw [blankL_nl]; simp only [go_sem]; omega
      · rw [blankL_ne h1 h2]; simp only [go_sem]; omega

theorem lines_alike : ∀ t : List UInt8, ∃ a ls b ms, piecesL 10 t = a :: ls ∧ piecesL 10 (blankL t) = b :: ms ∧ Alike a b ∧ ls.map wordsL = ms.map wordsL
  | [] => ⟨[], [], [], [], rfl, rfl, Alike.refl _, rfl⟩
  | x :: r => by
    obtain ⟨a, ls, b, ms, e1, e2, h1, h2⟩ := lines_alike r
    by_cases hs : x = 32
    · subst hs
      rw [blankL_sp, piecesL_ne (by decide), piecesL_ne (by decide), piecesL_ne (by decide), piecesL_ne (by decide), e1, e2]
      exact ⟨32 :: a, ls, 32 :: 32 :: 32 :: b, ms, rfl, rfl, h1.sp3, h2⟩
    · by_cases hn : x = 10
      · subst hn
        rw [blankL_nl, piecesL_eq, piecesL_ne (show (32 : UInt8) ≠ 10 by decide), piecesL_eq, piecesL_ne (show (32 : UInt8) ≠ 10 by decide), piecesL_ne (show (32 : UInt8) ≠ 10 by decide), e1, e2]
        refine ⟨[], a :: ls, [32], (32 :: 32 :: b) :: ms, rfl, rfl, Alike.last, ?_⟩
        simp only [go_sem, wordsL_sp, h1.words, h2]
      · rw [blankL_ne hs hn, piecesL_ne hn, piecesL_ne hn, e1, e2]
        exact ⟨x :: a, ls, x :: b, ms, rfl, rfl, h1.cons x, h2⟩

theorem blank_words (t : List UInt8) : (piecesL 10 (32 :: blankL t)).map wordsL = (piecesL 10 t).map wordsL := by
  obtain ⟨a, ls, b, ms, e1, e2, h1, h2⟩ := lines_alike t
  rw [piecesL_ne (show (32 : UInt8) ≠ 10 by decide), e1, e2]
  show wordsL (32 :: b) :: ms.map wordsL = wordsL a :: ls.map wordsL
  rw [wordsL_sp, h1.words, h2]

theorem loopS_congr : ∀ (ls ms : List (List UInt8)) (i : Nat) (b : Bool) (c : Cfg) (out : List Cmd), ls.map wordsL = ms.map wordsL → loopS i ls b c out = loopS i ms b c out
  | [], [], _, _, _, _, _ => rfl
  | [], _ :: _, _, _, _, _, h => by simp at h
  | _ :: _, [], _, _, _, _, h => by simp at h
  | l :: ls, m :: ms, i, b, c, out, h => by
    simp only [go_sem, List.cons.injEq] at h
    have ih : ∀ i b c out, loopS i ls b c out = loopS i ms b c out := fun i b c out => loopS_congr ls ms i b c out h.2
    simp only [loopS, h.1, ih]

theorem loopS_none : ∀ (ex : List (List UInt8)) (i : Nat) (b : Bool) (c : Cfg) (out : List Cmd), (∀ l ∈ ex, lineW (wordsL l) = []) → loopS i ex b c out = loopS i [] b c out
  | [], _, _, _, _, _ => rfl
  | l :: ls, i, b, c, out, h => by
    have h1 := h l (by simp)
    have ih := loopS_none ls (i + 1) b c out fun x hx => h x (by simp [hx])
    rw [loopS, h1]
    show loopS (i + 1) ls b c out = _
    rw [ih]
    cases b <;> rfl
theorem loopS_drop : ∀ (ls ex : List (List UInt8)) (i : Nat) (b : Bool) (c : Cfg) (out : List Cmd), (∀ l ∈ ex, lineW (wordsL l) = []) → loopS i (ls ++ ex) b c out = loopS i ls b c out
  | [], ex, i, b, c, out, h => loopS_none ex i b c out h
  | l :: ls, ex, i, b, c, out, h => by
    have ih : ∀ i b c out, loopS i (ls ++ ex) b c out = loopS i ls b c out := fun i b c out => loopS_drop ls ex i b c out h
    simp only [go_sem, loopS, ih]

/-- blanks change nothing -/
theorem parse_blank (t : List UInt8) (ht : t.length ≤ 8000) : parseS (32 :: blankL t ++ [10, 32, 32, 35, 32, 120, 10, 32, 32, 32]) = parseS t := by
  have hl := blankL_len t
  unfold parseS
  rw [if_neg (by simp only [go_sem, List.length_append]; omega), if_neg (by omega)]
  rw [pieces_app 10 (32 :: blankL t) [32, 32, 35, 32, 120, 10, 32, 32, 32]]
  rw [loopS_drop _ _ _ _ _ _ (by
    intro l hl
    have : piecesL 10 [32, 32, 35, 32, 120, 10, 32, 32, 32] = [[32, 32, 35, 32, 120], [32, 32, 32]] := by decide
    rw [this] at hl
    simp only [List.mem_cons, List.not_mem_nil, or_false] at hl
    rcases hl with rfl | rfl <;> decide)]
  exact loopS_congr _ _ _ _ _ _ (blank_words t)

/-! ### A thousand commands -/
def sysL : List UInt8 := [115, 121, 115, 116, 101, 109, 32, 49, 32, 49, 32, 49, 32, 49, 32, 49]
def runsL : List UInt8 := [114, 117, 110, 115, 10]
theorem runs_len (n : Nat) : (repl runsL n).length = 5 * n := by
  induction n with
  | zero => rfl
  | succ n ih => simp only [repl, List.length_append, ih]; simp [runsL]; omega
theorem runs_pieces (n : Nat) : piecesL 10 (repl runsL n) = List.replicate n [114, 117, 110, 115] ++ [[]] := by
  induction n with
  | zero => rfl
  | succ n ih =>
    have : repl runsL (n + 1) = [114, 117, 110, 115] ++ 10 :: repl runsL n := rfl
    rw [this, pieces_app, ih, List.replicate_succ]
    rfl

theorem runs_words : wordsL [114, 117, 110, 115] = [[114, 117, 110, 115]] := by decide
theorem runs_cmd (i : Nat) : cmdS i [[114, 117, 110, 115]] = (⟨i, 11, [], [], [], []⟩, 0) := rfl

theorem loop_runs (c : Cfg) : ∀ (n i : Nat) (out : List Cmd), out.length ≤ 1000 →
    loopS i (List.replicate n [114, 117, 110, 115] ++ [[]]) true c out = (if out.length + n ≤ 1000 then ⟨c, out ++ (List.range n).map fun k => ⟨i + k + 1, 11, [], [], [], []⟩, 0, 0⟩ else ⟨Cfg.zero, [], i + (1000 - out.length) + 1, 10⟩)
  | 0, i, out, h => by
    rw [if_pos (by omega)]
    simp only [go_sem, List.replicate_zero, List.range_zero]
    exact loopS_none [[]] i true c out (by intro l hl; simp only [List.mem_singleton] at hl; subst hl; decide)
  | n + 1, i, out, h => by
    rw [List.replicate_succ, List.cons_append, loopS, runs_words]
    show (if 1000 ≤ out.length then _ else if (cmdS (i + 1) [[114, 117, 110, 115]]).2 = 0 then _ else _) = _
    by_cases h2 : 1000 ≤ out.length
    · rw [if_pos h2, if_neg (by omega)]
      have : i + (1000 - out.length) + 1 = i + 1 := by omega
      rw [this]
    · rw [if_neg h2, runs_cmd, if_pos rfl, loop_runs c n (i + 1) _ (by simp; omega)]
      by_cases h3 : out.length + (n + 1) ≤ 1000
      · rw [if_pos h3, if_pos (by simp; omega)]
        congr 1
        rw [List.append_assoc]
        congr 1
        rw [List.range_succ_eq_map, List.map_cons, List.map_map]
        simp only [go_sem, List.cons.injEq, true_and]
        refine List.map_congr_left fun k _ => ?_
        simp only [Function.comp, Cmd.mk.injEq, and_true]
        omega
      · rw [if_neg h3, if_neg (by simp; omega)]
        congr 1
        simp only [go_sem, List.length_append]
        omega

def oneCfg : Cfg := ⟨1, 1, 1, 1, 1⟩
theorem sys_words : wordsL sysL = [[115, 121, 115, 116, 101, 109], [49], [49], [49], [49], [49]] := by decide
theorem sys_one : sysS [[115, 121, 115, 116, 101, 109], [49], [49], [49], [49], [49]] = (oneCfg, 0) := rfl

/-- the 1001st command is one too many -/
theorem parse_runs (n : Nat) (hn : n ≤ 1155) : parseS (sysL ++ 10 :: repl runsL n) = (if n ≤ 1000 then ⟨oneCfg, (List.range n).map fun k => ⟨1 + k + 1, 11, [], [], [], []⟩, 0, 0⟩ else ⟨Cfg.zero, [], 1002, 10⟩) := by
  unfold parseS
  rw [if_neg (by rw [List.length_append, List.length_cons, runs_len]; simp [sysL]; omega), pieces_app, runs_pieces]
  have : piecesL 10 sysL = [sysL] := by decide
  rw [this, List.singleton_append, loopS, sys_words]
  show (if (sysS [[115, 121, 115, 116, 101, 109], [49], [49], [49], [49], [49]]).2 = 0 then _ else _) = _
  rw [sys_one, if_pos rfl]
  show loopS (0 + 1) _ true oneCfg [] = _
  rw [loop_runs oneCfg n (0 + 1) [] (by simp)]
  simp

theorem parse_long (t : List UInt8) (h : 65536 < t.length) : parseS t = ⟨Cfg.zero, [], 0, 11⟩ := by unfold parseS; rw [if_pos h]

end Go.Proofs.YtkoccbggjfbgaaaGreatDoor
end

section
open Go.Eng
set_option maxRecDepth 100000
set_option linter.unusedSimpArgs false
set_option linter.unusedVariables false
namespace Go.Proofs.YtkoccbggjfbgaaaGreatDoor

/-! ### Numerals there and back -/
theorem decD_step {a d : Nat} (ha : 0 < a) (hd : d < 10) : Lib.decDigits (a * 10 + d) = Lib.decDigits a ++ [UInt8.ofNat (48 + d)] := by
  rw [Lib.decDigits, dif_neg (by omega), show (a * 10 + d) / 10 = a by omega, show (a * 10 + d) % 10 = d by omega]
theorem dig_back {c : UInt8} (h1 : 48 ≤ c.toNat) : UInt8.ofNat (48 + (c.toNat - 48)) = c := by
  rw [show 48 + (c.toNat - 48) = c.toNat by omega]; exact UInt8.ofNat_toNat
theorem dec_parse : ∀ (l : List UInt8) (acc n : Nat), 0 < acc → Lib.parseUint10 acc l = .ok n → Lib.decDigits n = Lib.decDigits acc ++ l
  | [], acc, n, _, h => by
    rw [Lib.parseUint10] at h
    injection h with h
    rw [h, List.append_nil]
  | c :: r, acc, n, ha, h => by
    rw [Lib.parseUint10] at h
    split at h
    · rename_i hc
      split at h
      · cases h
      · split at h
        · cases h
        · rw [dec_parse r _ n (by omega) h, decD_step ha (by omega), dig_back hc.1]; simp
    · cases h
theorem num_back (w : List UInt8) (h : (numS w).2 = 0) : decL (numS w).1 = w ∧ (numS w).1 ≤ 18446744073709551615 := by
  cases w with
  | nil => simp [numS] at h
  | cons x r =>
    by_cases hx : x = 48 ∧ r ≠ []
    · obtain ⟨rfl, hr⟩ := hx
      cases r with
      | nil => exact absurd rfl hr
      | cons y r => rw [numS_zero] at h; simp at h
    · rw [numS_else hx] at h ⊢
      split at h
      · rename_i hd
        split at h
        · rename_i n hp
          refine ⟨?_, ?_⟩
          · show Lib.decDigits n = x :: r
            have hp0 := hp
            rw [Lib.parseUint10] at hp
            split at hp
            · rename_i hc
              rw [if_neg (by omega), if_neg (by omega)] at hp
              by_cases h0 : x = 48
              · have hr : r = [] := Classical.byContradiction fun hr => hx ⟨h0, hr⟩
                subst h0 hr
                simp only [Lib.parseUint10] at hp
                injection hp with hp
                have : n = 0 := by rw [← hp]; rfl
                subst this
                rw [Lib.decDigits, dif_pos (by decide)]; rfl
              · have h1 : x.toNat ≠ 48 := fun e => h0 (UInt8.toNat_inj.1 e)
                rw [dec_parse r _ n (by omega) hp, Lib.decDigits, dif_pos (by omega), Nat.zero_mul, Nat.zero_add, dig_back hc.1]; rfl
            · cases hp
          · have := Lib.parseUint10_lt _ _ _ (by decide) hp
            show n ≤ _
            omega
        · simp at h
      · simp at h

theorem dig_is (d : Nat) (h : d < 10) : isDig (UInt8.ofNat (48 + d)) = true ∧ (UInt8.ofNat (48 + d)).toNat = 48 + d := by
  have : d = 0 ∨ d = 1 ∨ d = 2 ∨ d = 3 ∨ d = 4 ∨ d = 5 ∨ d = 6 ∨ d = 7 ∨ d = 8 ∨ d = 9 := by omega
  rcases this with rfl | rfl | rfl | rfl | rfl | rfl | rfl | rfl | rfl | rfl <;> decide
theorem parse_snoc : ∀ (l : List UInt8) (acc m d : Nat), Lib.parseUint10 acc l = .ok m → d < 10 → m * 10 + d < 18446744073709551616 → Lib.parseUint10 acc (l ++ [UInt8.ofNat (48 + d)]) = .ok (m * 10 + d)
  | [], acc, m, d, h, hd, hm => by
    rw [Lib.parseUint10] at h
    injection h with h
    subst h
    have h2 := (dig_is d hd).2
    rw [List.nil_append, Lib.parseUint10, h2, if_pos (by omega), if_neg (by omega), if_neg (by omega), Lib.parseUint10]
    congr 1; omega
  | c :: r, acc, m, d, h, hd, hm => by
    rw [Lib.parseUint10] at h
    rw [List.cons_append, Lib.parseUint10]
    split at h
    · rename_i hc
      rw [if_pos hc]
      split at h
      · cases h
      · rename_i h1
        rw [if_neg h1]
        split at h
        · cases h
        · rename_i h2
          rw [if_neg h2]
          exact parse_snoc r _ m d h hd hm
    · cases h
theorem dec_facts : ∀ (k n : Nat), n ≤ k → n < 18446744073709551616 → Lib.parseUint10 0 (Lib.decDigits n) = .ok n ∧ (Lib.decDigits n).all isDig = true ∧ (0 < n → ∃ c r, Lib.decDigits n = c :: r ∧ c ≠ 48)
  | k, n, hk, hn => by
    rw [Lib.decDigits]
    by_cases h10 : n < 10
    · rw [dif_pos h10]
      have h2 := dig_is n h10
      refine ⟨?_, ?_, fun h0 => ⟨_, _, rfl, ?_⟩⟩
      · have := parse_snoc [] 0 0 n (by rw [Lib.parseUint10]) h10 (by omega)
        simpa using this
      · show (isDig _ && true) = true
        rw [h2.1]; rfl
      · intro e
        have := h2.2
        rw [e] at this
        have : (48 : UInt8).toNat = 48 := rfl
        omega
    · rw [dif_neg h10]
      cases k with
      | zero => omega
      | succ k =>
        obtain ⟨i1, i2, i3⟩ := dec_facts k (n / 10) (by omega) (by omega)
        have hm : n % 10 < 10 := Nat.mod_lt _ (by omega)
        refine ⟨?_, ?_, fun _ => ?_⟩
        · have := parse_snoc _ _ _ (n % 10) i1 hm (by omega)
          rw [this]; congr 1; omega
        · rw [List.all_append, i2]
          show (isDig _ && true) = true
          rw [(dig_is _ hm).1]; rfl
        · obtain ⟨c, r, e, hc⟩ := i3 (by omega)
          exact ⟨c, _, by rw [e]; rfl, hc⟩
theorem num_dec (n : Nat) (hn : n ≤ 18446744073709551615) : numS (decL n) = (n, 0) := by
  obtain ⟨i1, i2, i3⟩ := dec_facts n n (Nat.le_refl _) (by omega)
  unfold decL
  by_cases h0 : n = 0
  · subst h0
    rw [Lib.decDigits, dif_pos (by decide)]; decide
  · obtain ⟨c, r, e, hc⟩ := i3 (by omega)
    rw [e] at i1 i2 ⊢
    rw [numS_else (fun h => hc h.1), i2, i1]
theorem nums_dec : ∀ (l : List Nat), (∀ n ∈ l, n ≤ 18446744073709551615) → numsS (l.map decL) = (l, 0)
  | [], _ => rfl
  | n :: l, h => by
    have h1 := num_dec n (h n (by simp))
    rw [List.map_cons, numsS_ok _ (by rw [h1]), h1, nums_dec l fun x hx => h x (by simp [hx])]

/-! ### Words there and back -/
theorem whole_iff {w : List UInt8} : wholeB w = true ↔ w ≠ [] ∧ (32 : UInt8) ∉ w ∧ (10 : UInt8) ∉ w := by
  unfold wholeB clean
  simp only [Bool.and_eq_true, decide_eq_true_eq, List.all_eq_true, Bool.not_eq_true', Bool.or_eq_false_iff, beq_eq_false_iff_ne, ne_eq]
  constructor
  · rintro ⟨h1, h2⟩
    exact ⟨h1, fun h => (h2 _ h).1 rfl, fun h => (h2 _ h).2 rfl⟩
  · rintro ⟨h1, h2, h3⟩
    exact ⟨h1, fun x hx => ⟨fun e => h2 (e ▸ hx), fun e => h3 (e ▸ hx)⟩⟩
theorem words_join : ∀ (xs : List (List UInt8)) (x : List UInt8), (∀ w ∈ x :: xs, wholeB w = true) → wordsL (joinL (x :: xs)) = x :: xs
  | [], x, h => by
    obtain ⟨h1, h2, _⟩ := whole_iff.1 (h x (by simp))
    show wordsL (x ++ []) = [x]
    rw [List.append_nil, wordsL_one h2 h1]
  | y :: ys, x, h => by
    obtain ⟨h1, h2, _⟩ := whole_iff.1 (h x (by simp))
    have ih := words_join ys y fun w hw => h w (by simp [hw])
    show wordsL (x ++ (32 :: y ++ ys.flatMap fun w => 32 :: w)) = _
    rw [List.cons_append, wordsL_cut _ h2 h1]
    congr 1
theorem join_clean : ∀ (ws : List (List UInt8)), (∀ w ∈ ws, wholeB w = true) → (10 : UInt8) ∉ joinL ws
  | [], _ => by simp [joinL]
  | x :: xs, h => by
    have h1 := (whole_iff.1 (h x (by simp))).2.2
    unfold joinL
    rw [List.mem_append, List.mem_flatMap]
    rintro (h2 | ⟨w, hw, h2⟩)
    · exact h1 h2
    · rcases List.mem_cons.1 h2 with h2 | h2
      · exact absurd h2 (by decide)
      · exact (whole_iff.1 (h w (by simp [hw]))).2.2 h2

def relab : Nat → List Cmd → List Cmd
  | _, [] => []
  | i, c :: l => { c with line := i } :: relab (i + 1) l

theorem form_idx : ∀ op, op < 12 → fidx (formW.getD op []) formW = some op := by decide
theorem form_hash : ∀ op, op < 12 → ∀ ws, lineW (formW.getD op [] :: ws) = formW.getD op [] :: ws := by
  intro op h ws
  have : op = 0 ∨ op = 1 ∨ op = 2 ∨ op = 3 ∨ op = 4 ∨ op = 5 ∨ op = 6 ∨ op = 7 ∨ op = 8 ∨ op = 9 ∨ op = 10 ∨ op = 11 := by omega
  rcases this with rfl | rfl | rfl | rfl | rfl | rfl | rfl | rfl | rfl | rfl | rfl | rfl <;> rfl
theorem state_idx : ∀ s, s < 4 → 1 ≤ s → fidx (stN s) stateW = some (s - 1) := by decide
theorem take_state (w : List UInt8) (c : Cmd) : takeS 42 w c = match fidx w stateW with
    | some k => ({ c with st := c.st ++ [k + 1] }, 0)
    | none => (c, 9) := by
  unfold takeS; rw [if_neg (by decide), if_neg (by decide), if_neg (by decide)]; rfl
theorem what_star (i : Nat) : whatB [42] i = 42 := by
  have : min i (([42] : List UInt8).length - 1) = 0 := by simp
  unfold whatB; rw [this]; rfl
theorem fold_states : ∀ (st : List Nat) (i : Nat) (c : Cmd), (∀ s ∈ st, 1 ≤ s ∧ s ≤ 3) → foldS [42] i (st.map stN) c = ({ c with st := c.st ++ st }, 0)
  | [], i, c, _ => by simp [foldS]
  | s :: st, i, c, h => by
    have h1 := h s (by simp)
    have e := state_idx s (by omega) h1.1
    rw [List.map_cons, foldS, what_star, take_state, e]
    simp only
    rw [if_pos trivial, fold_states st _ _ fun x hx => h x (by simp [hx]), show s - 1 + 1 = s by omega]
    simp
theorem take_num (c : Cmd) (n : Nat) (hn : n ≤ 18446744073709551615) : takeS 110 (decL n) c = ({ c with n := c.n ++ [n] }, 0) := by
  unfold takeS; rw [if_neg (by decide), if_neg (by decide), if_pos rfl, num_dec n hn]; rfl
theorem take_on (c : Cmd) (w : List UInt8) : takeS 104 w c = ({ c with on := w }, 0) := by
  unfold takeS; rw [if_neg (by decide), if_pos rfl]
theorem take_label (c : Cmd) (w : List UInt8) (h : ¬ 16 < w.length) : takeS 76 w c = ({ c with label := w }, 0) := by
  unfold takeS; rw [if_pos rfl, if_neg h]
theorem not_spare {c : Cmd} (h : spareB c = false) : (hasL c.op = false → c.label = []) ∧ (hasH c.op = false → c.on = []) ∧ (c.op ≠ 9 → c.st = []) ∧ c.n.length = countL.getD c.op 0 ∧ ¬ 16 < c.label.length := by
  unfold spareB at h
  simp only [Bool.or_eq_false_iff, Bool.and_eq_false_iff, Bool.not_eq_false', decide_eq_false_iff_not, ne_eq, Decidable.not_not] at h
  obtain ⟨⟨⟨⟨h1, h2⟩, h3⟩, h4⟩, h5⟩ := h
  refine ⟨fun e => ?_, fun e => ?_, fun e => ?_, h4, h5⟩
  · rcases h1 with h1 | h1
    · rw [e] at h1; cases h1
    · exact h1
  · rcases h2 with h2 | h2
    · rw [e] at h2; cases h2
    · exact h2
  · rcases h3 with h3 | h3
    · exact absurd h3 e
    · exact List.length_eq_zero_iff.1 (by omega)

theorem cmd_back (i : Nat) (c : Cmd) (hn : ∀ x ∈ c.n, x ≤ 18446744073709551615) (h : lineOK c = true) : ∃ ws, wordsP c = formW.getD c.op [] :: ws ∧ cmdS i (formW.getD c.op [] :: ws) = ({ c with line := i }, 0) := by
  unfold lineOK at h
  simp only [Bool.and_eq_true, decide_eq_true_eq, Bool.not_eq_true'] at h
  obtain ⟨⟨⟨hop, hst⟩, hsp⟩, _⟩ := h
  obtain ⟨s1, s2, s3, s4, s5⟩ := not_spare hsp
  obtain ⟨line, op, label, on, n, st⟩ := c
  dsimp only at *
  have hfi := form_idx op hop
  have hop2 : op = 0 ∨ op = 1 ∨ op = 2 ∨ op = 3 ∨ op = 4 ∨ op = 5 ∨ op = 6 ∨ op = 7 ∨ op = 8 ∨ op = 9 ∨ op = 10 ∨ op = 11 := by omega
  refine ⟨(wordsP ⟨line, op, label, on, n, st⟩).tail, by simp [wordsP, headW], ?_⟩
  unfold cmdS
  simp only [hfi]
  rcases hop2 with rfl | rfl | rfl | rfl | rfl | rfl | rfl | rfl | rfl | rfl | rfl | rfl
  · obtain rfl := s2 rfl
    obtain rfl := s3 (by decide)
    match n, s4, hn with
    | [a, b, d], _, hn =>
      have h1 := hn a (by simp)
      have h2 := hn b (by simp)
      have h3 := hn d (by simp)
      show (if _ ∨ ([label, decL a, decL b, decL d] : List (List UInt8)).length = _ then foldS [76, 110, 110, 110] 0 [label, decL a, decL b, decL d] ⟨i, 0, [], [], [], []⟩ else _) = _
      refine Eq.trans (if_pos (Or.inr rfl)) ?_
      rw [foldS, show whatB [76, 110, 110, 110] 0 = 76 from rfl, take_label _ _ s5, foldS, show whatB [76, 110, 110, 110] (0 + 1) = 110 from rfl, take_num _ _ h1, foldS, show whatB [76, 110, 110, 110] (0 + 1 + 1) = 110 from rfl, take_num _ _ h2, foldS, show whatB [76, 110, 110, 110] (0 + 1 + 1 + 1) = 110 from rfl, take_num _ _ h3]
      rfl
  all_goals obtain rfl := s1 rfl
  all_goals first | obtain rfl := s2 rfl | skip
  iterate 3
    · obtain rfl := s3 (by decide)
      obtain rfl := List.length_eq_zero_iff.1 s4
      show (if _ ∨ ([on] : List (List UInt8)).length = _ then foldS [104] 0 [on] _ else _) = _
      refine Eq.trans (if_pos (Or.inr rfl)) ?_
      rw [foldS, show whatB [104] 0 = 104 from rfl, take_on]
      rfl
  iterate 3
    · obtain rfl := s3 (by decide)
      match n, s4, hn with
      | [a], _, hn =>
        have h1 := hn a (by simp)
        show (if _ ∨ ([on, decL a] : List (List UInt8)).length = _ then foldS [104, 110] 0 [on, decL a] _ else _) = _
        refine Eq.trans (if_pos (Or.inr rfl)) ?_
        rw [foldS, show whatB [104, 110] 0 = 104 from rfl, take_on, foldS, show whatB [104, 110] (0 + 1) = 110 from rfl, take_num _ _ h1]
        rfl
  · obtain rfl := s3 (by decide)
    match n, s4, hn with
    | [a], _, hn =>
      have h1 := hn a (by simp)
      show (if _ ∨ ([decL a] : List (List UInt8)).length = _ then foldS [110] 0 [decL a] _ else _) = _
      refine Eq.trans (if_pos (Or.inr rfl)) ?_
      rw [foldS, show whatB [110] 0 = 110 from rfl, take_num _ _ h1]
      rfl
  · obtain rfl := s3 (by decide)
    obtain rfl := List.length_eq_zero_iff.1 s4
    show (if _ ∨ ([on] : List (List UInt8)).length = _ then foldS [104] 0 [on] _ else _) = _
    refine Eq.trans (if_pos (Or.inr rfl)) ?_
    rw [foldS, show whatB [104] 0 = 104 from rfl, take_on]
    rfl
  · obtain rfl := List.length_eq_zero_iff.1 s4
    have hs : ∀ s ∈ st, 1 ≤ s ∧ s ≤ 3 := fun s hs => by
      have := List.all_eq_true.1 hst s hs
      simpa using this
    have hw : (wordsP ⟨line, 9, [], [], [], st⟩).tail = st.map stN := by simp [wordsP, headW, hasL, hasH]
    rw [hw]
    show (if ([42] : List UInt8) = [42] ∨ _ then foldS [42] 0 (st.map stN) _ else _) = _
    refine Eq.trans (if_pos (Or.inl rfl)) ?_
    rw [fold_states st _ _ hs]
    rfl
  · obtain rfl := s3 (by decide)
    obtain rfl := List.length_eq_zero_iff.1 s4
    show (if _ ∨ ([] : List (List UInt8)).length = _ then foldS [] 0 [] _ else _) = _
    refine Eq.trans (if_pos (Or.inr rfl)) ?_
    rfl
  · obtain rfl := s3 (by decide)
    obtain rfl := List.length_eq_zero_iff.1 s4
    show (if _ ∨ ([] : List (List UInt8)).length = _ then foldS [] 0 [] _ else _) = _
    refine Eq.trans (if_pos (Or.inr rfl)) ?_
    rfl
theorem line_back {i : Nat} {c : Cmd} (hn : ∀ x ∈ c.n, x ≤ 18446744073709551615) (h : lineOK c = true) : ∃ w ws, lineW (wordsL (joinL (wordsP c))) = w :: ws ∧ cmdS i (w :: ws) = ({ c with line := i }, 0) ∧ (10 : UInt8) ∉ joinL (wordsP c) := by
  obtain ⟨ws, e, h1⟩ := cmd_back i c hn h
  have hw : ∀ w ∈ wordsP c, wholeB w = true := by
    unfold lineOK at h
    simp only [Bool.and_eq_true] at h
    exact List.all_eq_true.1 h.2
  have hop := (lineOK_and h).1
  refine ⟨_, ws, ?_, h1, join_clean _ hw⟩
  rw [e] at hw ⊢
  rw [words_join ws _ hw, form_hash _ hop]
theorem pieces_body : ∀ (l : List Cmd), (∀ c ∈ l, ∀ x ∈ c.n, x ≤ 18446744073709551615) → l.all lineOK = true → piecesL 10 (bodyT l) = l.map (fun c => joinL (wordsP c)) ++ [[]]
  | [], _, _ => rfl
  | c :: l, hn, h => by
    simp only [List.all_cons, Bool.and_eq_true] at h
    obtain ⟨_, _, _, _, h1⟩ := line_back (i := 0) (hn c (by simp)) h.1
    have ih := pieces_body l (fun x hx => hn x (by simp [hx])) h.2
    have : bodyT (c :: l) = joinL (wordsP c) ++ 10 :: bodyT l := by simp [bodyT, lineT]
    rw [this, piecesL_cut _ h1, ih]; rfl
theorem loop_body (cfg : Cfg) : ∀ (l : List Cmd) (i : Nat) (out : List Cmd), (∀ c ∈ l, ∀ x ∈ c.n, x ≤ 18446744073709551615) → l.all lineOK = true → out.length + l.length ≤ 1000 →
    loopS i (l.map (fun c => joinL (wordsP c)) ++ [[]]) true cfg out = ⟨cfg, out ++ relab (i + 1) l, 0, 0⟩
  | [], i, out, _, _, _ => by
    rw [List.map_nil, List.nil_append, loopS_none [[]] i true cfg out (by intro l hl; simp only [List.mem_singleton] at hl; subst hl; decide)]
    simp [loopS, relab]
  | c :: l, i, out, hn, h, hlen => by
    simp only [List.all_cons, Bool.and_eq_true, List.length_cons] at h hlen
    obtain ⟨w, ws, h1, h2, _⟩ := line_back (i := i + 1) (hn c (by simp)) h.1
    have ih := loop_body cfg l (i + 1) (out ++ [{ c with line := i + 1 }]) (fun x hx => hn x (by simp [hx])) h.2 (by simp; omega)
    rw [List.map_cons, List.cons_append, loopS, h1]
    show (if 1000 ≤ out.length then _ else if (cmdS (i + 1) (w :: ws)).2 = 0 then _ else _) = _
    rw [if_neg (by omega), h2]
    refine Eq.trans (if_pos rfl) ?_
    rw [ih]
    simp [relab]

/-- what is printed is parsed as it was, but for lines -/
theorem print_parse {cores tasks : Int} {tick slice origin : Nat} {l : List Cmd} (hT : tick ≤ 18446744073709551615 ∧ slice ≤ 18446744073709551615 ∧ origin ≤ 18446744073709551615) (hn : ∀ c ∈ l, ∀ x ∈ c.n, x ≤ 18446744073709551615)
    (h : (printS cores tasks tick slice origin l).2 = 0) :
    parseS (printS cores tasks tick slice origin l).1 = ⟨⟨cores.toNat, tasks.toNat, tick, slice, origin⟩, relab 2 l, 0, 0⟩ ∧ (printS cores tasks tick slice origin l).1.length ≤ 65536 ∧ 0 ≤ cores ∧ 0 ≤ tasks ∧ l.length ≤ 1000 := by
  unfold printS at h ⊢
  by_cases h1 : 1000 < l.length
  · rw [if_pos h1] at h; cases h
  rw [if_neg h1] at h ⊢
  by_cases h2 : ¬ (0 ≤ cores ∧ cores ≤ 1073741824 ∧ 0 ≤ tasks ∧ tasks ≤ 1073741824)
  · rw [if_pos h2] at h; cases h
  rw [if_neg h2] at h ⊢
  have h2 := Classical.not_not.1 h2
  by_cases h3 : l.all lineOK = true
  · rw [if_pos h3] at h ⊢
    by_cases h4 : 65536 < (sysT cores.toNat tasks.toNat tick slice origin ++ bodyT l).length
    · rw [if_pos h4] at h; cases h
    rw [if_neg h4]
    refine ⟨?_, by dsimp only; omega, h2.1, h2.2.2.1, by omega⟩
    have hns : ∀ n ∈ [cores.toNat, tasks.toNat, tick, slice, origin], n ≤ 18446744073709551615 := by
      intro n hm
      simp only [List.mem_cons, List.not_mem_nil, or_false] at hm
      rcases hm with rfl | rfl | rfl | rfl | rfl <;> omega
    have hws : ∀ w ∈ sysWord :: [cores.toNat, tasks.toNat, tick, slice, origin].map decL, wholeB w = true := by
      intro w hw
      rcases List.mem_cons.1 hw with rfl | hw
      · decide
      · obtain ⟨n, _, rfl⟩ := List.mem_map.1 hw
        exact decL_whole n
    have hsys : sysT cores.toNat tasks.toNat tick slice origin ++ bodyT l = joinL (sysWord :: [cores.toNat, tasks.toNat, tick, slice, origin].map decL) ++ 10 :: bodyT l := by
      simp [sysT, joinL, sysWord]
    show parseS (sysT cores.toNat tasks.toNat tick slice origin ++ bodyT l) = _
    unfold parseS
    rw [if_neg h4, hsys, piecesL_cut _ (join_clean _ hws), pieces_body l hn h3, loopS, words_join _ _ hws]
    show (if (sysS (sysWord :: [cores.toNat, tasks.toNat, tick, slice, origin].map decL)).2 = 0 then _ else _) = _
    have hS : sysS (sysWord :: [cores.toNat, tasks.toNat, tick, slice, origin].map decL) = (⟨cores.toNat, tasks.toNat, tick, slice, origin⟩, 0) := by
      show (if sysWord = sysWord ∧ ([cores.toNat, tasks.toNat, tick, slice, origin].map decL).length = 5 then (match (numsS ([cores.toNat, tasks.toNat, tick, slice, origin].map decL)).2 with | 0 => (cfgOf (numsS ([cores.toNat, tasks.toNat, tick, slice, origin].map decL)).1, 0) | e => (Cfg.zero, e)) else (Cfg.zero, 9)) = _
      refine Eq.trans (if_pos ⟨rfl, rfl⟩) ?_
      rw [nums_dec _ hns]
      show (cfgOf [cores.toNat, tasks.toNat, tick, slice, origin], 0) = _
      show ((⟨min cores.toNat 1073741824, min tasks.toNat 1073741824, tick, slice, origin⟩ : Cfg), 0) = _
      rw [Nat.min_eq_left (show cores.toNat ≤ 1073741824 by omega), Nat.min_eq_left (show tasks.toNat ≤ 1073741824 by omega)]
    rw [hS]
    refine Eq.trans (if_pos rfl) ?_
    rw [loop_body _ l (0 + 1) [] hn h3 (by simp; omega)]
    show (⟨(sysS (sysWord :: [cores.toNat, tasks.toNat, tick, slice, origin].map decL)).1, [] ++ relab (0 + 1 + 1) l, 0, 0⟩ : Res) = _
    rw [hS]; rfl
  · rw [if_neg h3] at h; cases h

/-! ### What is parsed is printed -/
theorem fidx_form {w : List UInt8} {op : Nat} (h : fidx w formW = some op) : op < 12 ∧ formW.getD op [] = w := by
  have := fidx_lt h
  have hl : op < formW.length := by
    rcases Nat.lt_or_ge op formW.length with hl | hl
    · exact hl
    · rw [List.getElem?_eq_none hl] at this; cases this
  exact ⟨hl, by rw [List.getD_eq_getElem?_getD, this]; rfl⟩
theorem fidx_state {w : List UInt8} {k : Nat} (h : fidx w stateW = some k) : k < 3 ∧ stN (k + 1) = w := by
  have := fidx_lt h
  have hl : k < stateW.length := by
    rcases Nat.lt_or_ge k stateW.length with hl | hl
    · exact hl
    · rw [List.getElem?_eq_none hl] at this; cases this
  exact ⟨hl, by unfold stN; rw [Nat.add_sub_cancel, List.getD_eq_getElem?_getD, this]; rfl⟩
theorem take_num2 {w : List UInt8} {c : Cmd} (h : (takeS 110 w c).2 = 0) : (takeS 110 w c).1 = { c with n := c.n ++ [(numS w).1] } ∧ decL (numS w).1 = w ∧ (numS w).1 ≤ 18446744073709551615 := by
  have e : takeS 110 w c = (if (numS w).2 = 0 then ({ c with n := c.n ++ [(numS w).1] }, 0) else (c, (numS w).2)) := by
    unfold takeS; rw [if_neg (by decide), if_neg (by decide), if_pos rfl]
  rw [e] at h ⊢
  by_cases h0 : (numS w).2 = 0
  · rw [if_pos h0]; exact ⟨rfl, num_back w h0⟩
  · rw [if_neg h0] at h; exact absurd h h0
theorem take_lab2 {w : List UInt8} {c : Cmd} (h : (takeS 76 w c).2 = 0) : (takeS 76 w c).1 = { c with label := w } ∧ ¬ 16 < w.length := by
  have e : takeS 76 w c = (if 16 < w.length then (c, 11) else ({ c with label := w }, 0)) := by
    unfold takeS; rw [if_pos rfl]
  rw [e] at h ⊢
  by_cases h0 : 16 < w.length
  · rw [if_pos h0] at h; cases h
  · rw [if_neg h0]; exact ⟨rfl, h0⟩
theorem fold_states2 : ∀ (ws : List (List UInt8)) (i : Nat) (c : Cmd), (foldS [42] i ws c).2 = 0 → ∃ st, (foldS [42] i ws c).1 = { c with st := c.st ++ st } ∧ st.map stN = ws ∧ ∀ s ∈ st, 1 ≤ s ∧ s ≤ 3
  | [], i, c, _ => ⟨[], by simp [foldS], rfl, fun s hs => by simp at hs⟩
  | w :: ws, i, c, h => by
    rw [foldS, what_star, take_state] at h ⊢
    cases hf : fidx w stateW with
    | none => rw [hf] at h; simp at h
    | some k =>
      rw [hf] at h
      simp only [if_true] at h ⊢
      obtain ⟨st, h1, h2, h3⟩ := fold_states2 ws (i + 1) _ h
      obtain ⟨k1, k2⟩ := fidx_state hf
      refine ⟨(k + 1) :: st, ?_, by rw [List.map_cons, k2, h2], fun s hs => ?_⟩
      · rw [h1]; simp
      · rcases List.mem_cons.1 hs with rfl | hs
        · omega
        · exact h3 s hs

theorem fold_cons {rest w : List UInt8} {ws : List (List UInt8)} {i : Nat} {c : Cmd} (h : (foldS rest i (w :: ws) c).2 = 0) : (takeS (whatB rest i) w c).2 = 0 ∧ foldS rest i (w :: ws) c = foldS rest (i + 1) ws (takeS (whatB rest i) w c).1 := by
  rw [foldS] at h ⊢
  by_cases h0 : (takeS (whatB rest i) w c).2 = 0
  · rw [if_pos h0]; exact ⟨h0, rfl⟩
  · rw [if_neg h0] at h; exact absurd h h0
theorem fold_num {rest w : List UInt8} {ws : List (List UInt8)} {i : Nat} {c : Cmd} (h : (foldS rest i (w :: ws) c).2 = 0) (hw : whatB rest i = 110) : ∃ n, foldS rest i (w :: ws) c = foldS rest (i + 1) ws { c with n := c.n ++ [n] } ∧ decL n = w ∧ n ≤ 18446744073709551615 := by
  obtain ⟨h1, h2⟩ := fold_cons h
  rw [hw] at h1 h2
  obtain ⟨e, h3, h4⟩ := take_num2 h1
  exact ⟨_, by rw [h2, e], h3, h4⟩
theorem fold_on {rest w : List UInt8} {ws : List (List UInt8)} {i : Nat} {c : Cmd} (h : (foldS rest i (w :: ws) c).2 = 0) (hw : whatB rest i = 104) : foldS rest i (w :: ws) c = foldS rest (i + 1) ws { c with on := w } := by
  obtain ⟨h1, h2⟩ := fold_cons h
  rw [hw, take_on] at h2
  exact h2
theorem fold_lab {rest w : List UInt8} {ws : List (List UInt8)} {i : Nat} {c : Cmd} (h : (foldS rest i (w :: ws) c).2 = 0) (hw : whatB rest i = 76) : foldS rest i (w :: ws) c = foldS rest (i + 1) ws { c with label := w } ∧ ¬ 16 < w.length := by
  obtain ⟨h1, h2⟩ := fold_cons h
  rw [hw] at h1 h2
  obtain ⟨e, h3⟩ := take_lab2 h1
  exact ⟨by rw [h2, e], h3⟩

/-- a command as it is parsed is written as it was -/
theorem cmd_fwd (i : Nat) (ws : List (List UInt8)) (h : (cmdS i ws).2 = 0) (hw : ∀ w ∈ ws, wholeB w = true) : wordsP (cmdS i ws).1 = ws ∧ lineOK (cmdS i ws).1 = true ∧ ∀ x ∈ (cmdS i ws).1.n, x ≤ 18446744073709551615 := by
  cases ws with
  | nil => simp [cmdS] at h
  | cons w ws =>
    unfold cmdS at h ⊢
    simp only at h ⊢
    cases hf : fidx w formW with
    | none => rw [hf] at h; simp at h
    | some op =>
      rw [hf] at h
      simp only at h ⊢
      obtain ⟨hop, rfl⟩ := fidx_form hf
      by_cases hc : formR.getD op [] = [42] ∨ ws.length = (formR.getD op []).length
      · rw [if_pos hc] at h ⊢
        have hop2 : op = 0 ∨ op = 1 ∨ op = 2 ∨ op = 3 ∨ op = 4 ∨ op = 5 ∨ op = 6 ∨ op = 7 ∨ op = 8 ∨ op = 9 ∨ op = 10 ∨ op = 11 := by omega
        have key : ∀ c : Cmd, c.op < 12 → stOK c = true → spareB c = false → wordsP c = formW.getD op [] :: ws → (∀ x ∈ c.n, x ≤ 18446744073709551615) → wordsP c = formW.getD op [] :: ws ∧ lineOK c = true ∧ ∀ x ∈ c.n, x ≤ 18446744073709551615 := by
          intro c k1 k2 k3 k4 k5
          refine ⟨k4, ?_, k5⟩
          unfold lineOK
          rw [decide_eq_true k1, k2, k3, k4, List.all_eq_true.2 hw]; rfl
        rcases hop2 with rfl | rfl | rfl | rfl | rfl | rfl | rfl | rfl | rfl | rfl | rfl | rfl
        · replace hc := hc.resolve_left (by decide)
          match ws, hc, h, key with
          | [a, b, d, e], _, h, key =>
            change (foldS [76, 110, 110, 110] 0 [a, b, d, e] _).2 = 0 at h
            change wordsP (foldS [76, 110, 110, 110] 0 [a, b, d, e] _).1 = _ ∧ lineOK (foldS [76, 110, 110, 110] 0 [a, b, d, e] _).1 = true ∧ ∀ x ∈ (foldS [76, 110, 110, 110] 0 [a, b, d, e] _).1.n, _
            obtain ⟨e1, h1⟩ := fold_lab h rfl
            rw [e1] at h ⊢
            obtain ⟨n1, e2, h2, k2⟩ := fold_num h rfl
            rw [e2] at h ⊢
            obtain ⟨n2, e3, h3, k3⟩ := fold_num h rfl
            rw [e3] at h ⊢
            obtain ⟨n3, e4, h4, k4⟩ := fold_num h rfl
            rw [e4] at h ⊢
            refine key _ hop rfl ?_ (by rw [← h2, ← h3, ← h4]; rfl) ?_
            · have : decide (16 < a.length) = false := decide_eq_false h1
              show spareB ⟨i, 0, a, [], [n1, n2, n3], []⟩ = false
              simp only [spareB, hasL, hasH, countL, this]; rfl
            · intro x hx
              have hx : x ∈ [n1, n2, n3] := hx
              simp only [List.mem_cons, List.not_mem_nil, or_false] at hx
              rcases hx with rfl | rfl | rfl <;> assumption
        · replace hc := hc.resolve_left (by decide)
          match ws, hc, h, key with
          | [a], _, h, key =>
            change (foldS [104] 0 [a] _).2 = 0 at h
            change wordsP (foldS [104] 0 [a] _).1 = _ ∧ lineOK (foldS [104] 0 [a] _).1 = true ∧ ∀ x ∈ (foldS [104] 0 [a] _).1.n, _
            have e1 := fold_on h rfl
            rw [e1] at h ⊢
            exact key _ hop rfl rfl (by first | rfl | (rw [← h2]; rfl)) (by simp [foldS])
        · replace hc := hc.resolve_left (by decide)
          match ws, hc, h, key with
          | [a], _, h, key =>
            change (foldS [104] 0 [a] _).2 = 0 at h
            change wordsP (foldS [104] 0 [a] _).1 = _ ∧ lineOK (foldS [104] 0 [a] _).1 = true ∧ ∀ x ∈ (foldS [104] 0 [a] _).1.n, _
            have e1 := fold_on h rfl
            rw [e1] at h ⊢
            exact key _ hop rfl rfl (by first | rfl | (rw [← h2]; rfl)) (by simp [foldS])
        · replace hc := hc.resolve_left (by decide)
          match ws, hc, h, key with
          | [a], _, h, key =>
            change (foldS [104] 0 [a] _).2 = 0 at h
            change wordsP (foldS [104] 0 [a] _).1 = _ ∧ lineOK (foldS [104] 0 [a] _).1 = true ∧ ∀ x ∈ (foldS [104] 0 [a] _).1.n, _
            have e1 := fold_on h rfl
            rw [e1] at h ⊢
            exact key _ hop rfl rfl (by first | rfl | (rw [← h2]; rfl)) (by simp [foldS])
        · replace hc := hc.resolve_left (by decide)
          match ws, hc, h, key with
          | [a, b], _, h, key =>
            change (foldS [104, 110] 0 [a, b] _).2 = 0 at h
            change wordsP (foldS [104, 110] 0 [a, b] _).1 = _ ∧ lineOK (foldS [104, 110] 0 [a, b] _).1 = true ∧ ∀ x ∈ (foldS [104, 110] 0 [a, b] _).1.n, _
            have e1 := fold_on h rfl
            rw [e1] at h ⊢
            obtain ⟨n1, e2, h2, k2⟩ := fold_num h rfl
            rw [e2] at h ⊢
            exact key _ hop rfl rfl (by first | rfl | (rw [← h2]; rfl)) (by simp [foldS]; exact k2)
        · replace hc := hc.resolve_left (by decide)
          match ws, hc, h, key with
          | [a, b], _, h, key =>
            change (foldS [104, 110] 0 [a, b] _).2 = 0 at h
            change wordsP (foldS [104, 110] 0 [a, b] _).1 = _ ∧ lineOK (foldS [104, 110] 0 [a, b] _).1 = true ∧ ∀ x ∈ (foldS [104, 110] 0 [a, b] _).1.n, _
            have e1 := fold_on h rfl
            rw [e1] at h ⊢
            obtain ⟨n1, e2, h2, k2⟩ := fold_num h rfl
            rw [e2] at h ⊢
            exact key _ hop rfl rfl (by first | rfl | (rw [← h2]; rfl)) (by simp [foldS]; exact k2)
        · replace hc := hc.resolve_left (by decide)
          match ws, hc, h, key with
          | [a, b], _, h, key =>
            change (foldS [104, 110] 0 [a, b] _).2 = 0 at h
            change wordsP (foldS [104, 110] 0 [a, b] _).1 = _ ∧ lineOK (foldS [104, 110] 0 [a, b] _).1 = true ∧ ∀ x ∈ (foldS [104, 110] 0 [a, b] _).1.n, _
            have e1 := fold_on h rfl
            rw [e1] at h ⊢
            obtain ⟨n1, e2, h2, k2⟩ := fold_num h rfl
            rw [e2] at h ⊢
            exact key _ hop rfl rfl (by first | rfl | (rw [← h2]; rfl)) (by simp [foldS]; exact k2)
        · replace hc := hc.resolve_left (by decide)
          match ws, hc, h, key with
          | [b], _, h, key =>
            change (foldS [110] 0 [b] _).2 = 0 at h
            change wordsP (foldS [110] 0 [b] _).1 = _ ∧ lineOK (foldS [110] 0 [b] _).1 = true ∧ ∀ x ∈ (foldS [110] 0 [b] _).1.n, _
            obtain ⟨n1, e2, h2, k2⟩ := fold_num h rfl
            rw [e2] at h ⊢
            exact key _ hop rfl rfl (by first | rfl | (rw [← h2]; rfl)) (by simp [foldS]; exact k2)
        · replace hc := hc.resolve_left (by decide)
          match ws, hc, h, key with
          | [a], _, h, key =>
            change (foldS [104] 0 [a] _).2 = 0 at h
            change wordsP (foldS [104] 0 [a] _).1 = _ ∧ lineOK (foldS [104] 0 [a] _).1 = true ∧ ∀ x ∈ (foldS [104] 0 [a] _).1.n, _
            have e1 := fold_on h rfl
            rw [e1] at h ⊢
            exact key _ hop rfl rfl (by first | rfl | (rw [← h2]; rfl)) (by simp [foldS])
        · change (foldS [42] 0 ws _).2 = 0 at h
          change wordsP (foldS [42] 0 ws _).1 = _ ∧ lineOK (foldS [42] 0 ws _).1 = true ∧ ∀ x ∈ (foldS [42] 0 ws _).1.n, _
          obtain ⟨st, e1, h1, h2⟩ := fold_states2 ws 0 _ h
          rw [e1]
          refine key _ hop ?_ ?_ ?_ (by simp)
          · refine List.all_eq_true.2 fun s hs => decide_eq_true (h2 s ?_)
            simpa using hs
          · simp [spareB, hasL, hasH, countL]
          · rw [← h1]; simp [wordsP, headW, hasL, hasH]
        · replace hc := hc.resolve_left (by decide)
          match ws, hc, h, key with
          | [], _, h, key => exact key _ hop rfl rfl rfl (by simp [foldS])
        · replace hc := hc.resolve_left (by decide)
          match ws, hc, h, key with
          | [], _, h, key => exact key _ hop rfl rfl rfl (by simp [foldS])
      · rw [if_neg hc] at h; simp at h
/-! ### Lengths -/
def tot (ws : List (List UInt8)) : Nat := (ws.map fun w => w.length + 1).sum
theorem tot_cons (w : List UInt8) (ws : List (List UInt8)) : tot (w :: ws) = w.length + 1 + tot ws := by simp [tot]
theorem tot_pieces (c : UInt8) : ∀ l : List UInt8, tot (piecesL c l) = l.length + 1
  | [] => rfl
  | x :: r => by
    have ih := tot_pieces c r
    by_cases h : x = c
    · subst h
      rw [piecesL_eq, tot_cons, ih]; simp; omega
    · rw [piecesL_ne h]
      have hn := piecesL_ne_nil c r
      generalize piecesL c r = P at ih hn
      cases P with
      | nil => exact absurd rfl hn
      | cons p ps =>
        show tot ((x :: p) :: ps) = _
        rw [tot_cons] at ih ⊢
        simp only [List.length_cons] at ih ⊢; omega
theorem tot_filter (f : List UInt8 → Bool) : ∀ ws : List (List UInt8), tot (ws.filter f) ≤ tot ws
  | [] => Nat.le_refl _
  | w :: ws => by
    have ih := tot_filter f ws
    rw [List.filter_cons]
    split
    · rw [tot_cons, tot_cons]; omega
    · rw [tot_cons]; omega
theorem flat_tot : ∀ xs : List (List UInt8), (xs.flatMap fun w => 32 :: w).length = tot xs
  | [] => rfl
  | x :: xs => by
    rw [List.flatMap_cons, List.length_append, flat_tot xs, tot_cons]; simp
theorem join_tot (x : List UInt8) (xs : List (List UInt8)) : (joinL (x :: xs)).length + 1 = tot (x :: xs) := by
  unfold joinL
  rw [List.length_append, flat_tot, tot_cons]; omega
theorem pieces_mem (c : UInt8) : ∀ (l p : List UInt8), p ∈ piecesL c l → c ∉ p ∧ ∀ x ∈ p, x ∈ l
  | [], p, h => by
    simp only [piecesL, List.mem_singleton] at h
    subst h; simp
  | y :: r, p, h => by
    by_cases hy : y = c
    · subst hy
      rw [piecesL_eq] at h
      rcases List.mem_cons.1 h with rfl | h
      · simp
      · obtain ⟨h1, h2⟩ := pieces_mem y r p h
        exact ⟨h1, fun x hx => by simp [h2 x hx]⟩
    · rw [piecesL_ne hy] at h
      have ih := pieces_mem c r
      have hn := piecesL_ne_nil c r
      generalize piecesL c r = P at ih hn h
      cases P with
      | nil => exact absurd rfl hn
      | cons q ps =>
        rcases List.mem_cons.1 h with rfl | h
        · obtain ⟨h1, h2⟩ := ih q (by simp)
          refine ⟨fun hm => ?_, fun x hx => ?_⟩
          · rcases List.mem_cons.1 hm with hm | hm
            · exact hy hm.symm
            · exact h1 hm
          · rcases List.mem_cons.1 hx with rfl | hx
            · simp
            · simp [h2 x hx]
        · obtain ⟨h1, h2⟩ := ih p (by simp [h])
          exact ⟨h1, fun x hx => by simp [h2 x hx]⟩
theorem lineW_or (ws : List (List UInt8)) : lineW ws = [] ∨ lineW ws = ws := by
  unfold lineW
  split
  · exact .inl rfl
  · exact .inr rfl
theorem words_good {l : List UInt8} (h : (10 : UInt8) ∉ l) : ∀ w ∈ lineW (wordsL l), wholeB w = true := by
  intro w hw
  have hw2 : w ∈ wordsL l := by
    rcases lineW_or (wordsL l) with e | e
    · rw [e] at hw; simp at hw
    · rw [e] at hw; exact hw
  have h1 := wordsL_ne l w hw2
  unfold wordsL at hw2
  obtain ⟨h2, h3⟩ := pieces_mem 32 l w (List.mem_filter.1 hw2).1
  exact whole_iff.2 ⟨h1, h2, fun hm => h (h3 _ hm)⟩
theorem line_len {l w : List UInt8} {ws : List (List UInt8)} (h : lineW (wordsL l) = w :: ws) : (joinL (w :: ws)).length ≤ l.length := by
  have h1 := join_tot w ws
  have h2 : tot (w :: ws) ≤ l.length + 1 := by
    rcases lineW_or (wordsL l) with e | e
    · rw [e] at h; simp at h
    · rw [e] at h
      rw [← h, ← tot_pieces 32 l]
      exact tot_filter ne0 _
  omega

/-- a configuration as it is parsed -/
def CfgB (c : Cfg) : Prop := c.cores ≤ 1073741824 ∧ c.tasks ≤ 1073741824 ∧ c.tick ≤ 18446744073709551615 ∧ c.slice ≤ 18446744073709551615 ∧ c.origin ≤ 18446744073709551615
theorem nums_le : ∀ (l : List (List UInt8)), ∀ n ∈ (numsS l).1, n ≤ 18446744073709551615
  | [], n, h => by simp [numsS] at h
  | w :: ws, n, h => by
    by_cases h0 : (numS w).2 = 0
    · rw [numsS_ok ws h0] at h
      rcases List.mem_cons.1 h with rfl | h
      · exact (num_back w h0).2
      · exact nums_le ws n h
    · rw [numsS_bad ws h0] at h; simp at h
theorem sys_fwd (ws : List (List UInt8)) : CfgB (sysS ws).1 := by
  have hz : CfgB Cfg.zero := ⟨Nat.zero_le _, Nat.zero_le _, Nat.zero_le _, Nat.zero_le _, Nat.zero_le _⟩
  unfold sysS
  split
  · exact hz
  · split
    · split
      · have := nums_le
        rename_i w ws _ _ _
        have hl := nums_le ws
        generalize (numsS ws).1 = L at hl
        unfold cfgOf
        split
        · refine ⟨Nat.min_le_right _ _, Nat.min_le_right _ _, hl _ (by simp), hl _ (by simp), hl _ (by simp)⟩
        · exact hz
      · exact hz
    · exact hz

theorem loop_fwd : ∀ (ls : List (List UInt8)) (i : Nat) (cfg : Cfg) (out : List Cmd), (∀ l ∈ ls, (10 : UInt8) ∉ l) → out.length ≤ 1000 → (loopS i ls true cfg out).err = 0 →
    ∃ new, loopS i ls true cfg out = ⟨cfg, out ++ new, 0, 0⟩ ∧ new.all lineOK = true ∧ (∀ c ∈ new, ∀ x ∈ c.n, x ≤ 18446744073709551615) ∧ (bodyT new).length ≤ tot ls ∧ out.length + new.length ≤ 1000
  | [], i, cfg, out, _, ho, _ => ⟨[], by simp [loopS], rfl, fun c hc => by simp at hc, Nat.zero_le _, by simpa using ho⟩
  | l :: ls, i, cfg, out, hl, ho, h => by
    have hl1 := hl l (by simp)
    have hl2 : ∀ x ∈ ls, (10 : UInt8) ∉ x := fun x hx => hl x (by simp [hx])
    rw [loopS] at h ⊢
    have hgood := words_good hl1
    have hlen := @line_len l
    generalize lineW (wordsL l) = W at h hgood hlen ⊢
    cases W with
    | nil =>
      obtain ⟨new, h1, h2, h3, h4, h5⟩ := loop_fwd ls (i + 1) cfg out hl2 ho h
      exact ⟨new, h1, h2, h3, by rw [tot_cons]; omega, h5⟩
    | cons w ws =>
      simp only at h ⊢
      by_cases h1 : 1000 ≤ out.length
      · rw [if_pos h1] at h; simp at h
      rw [if_neg h1] at h ⊢
      by_cases h2 : (cmdS (i + 1) (w :: ws)).2 = 0
      · rw [if_pos h2] at h ⊢
        obtain ⟨c1, c2, c3⟩ := cmd_fwd (i + 1) (w :: ws) h2 hgood
        obtain ⟨new, e1, e2, e3, e4, e5⟩ := loop_fwd ls (i + 1) cfg (out ++ [(cmdS (i + 1) (w :: ws)).1]) hl2 (by simp; omega) h
        refine ⟨(cmdS (i + 1) (w :: ws)).1 :: new, by rw [e1]; simp, by rw [List.all_cons, c2, e2]; rfl, fun c hc => ?_, ?_, by simp at e5 ⊢; omega⟩
        · rcases List.mem_cons.1 hc with rfl | hc
          · exact c3
          · exact e3 c hc
        · have := hlen rfl
          have e : bodyT ((cmdS (i + 1) (w :: ws)).1 :: new) = (joinL (w :: ws) ++ [10]) ++ bodyT new := by
            simp [bodyT, lineT, c1]
          rw [e, tot_cons]
          simp only [List.length_append, List.length_cons, List.length_nil]; omega
      · rw [if_neg h2] at h
        exact absurd h h2
theorem loop_first : ∀ (ls : List (List UInt8)) (i : Nat), (∀ l ∈ ls, (10 : UInt8) ∉ l) → (loopS i ls false Cfg.zero []).err = 0 →
    ∃ cfg new, loopS i ls false Cfg.zero [] = ⟨cfg, new, 0, 0⟩ ∧ CfgB cfg ∧ new.all lineOK = true ∧ (∀ c ∈ new, ∀ x ∈ c.n, x ≤ 18446744073709551615) ∧ (bodyT new).length ≤ tot ls ∧ new.length ≤ 1000
  | [], i, _, h => by simp [loopS] at h
  | l :: ls, i, hl, h => by
    have hl1 := hl l (by simp)
    have hl2 : ∀ x ∈ ls, (10 : UInt8) ∉ x := fun x hx => hl x (by simp [hx])
    rw [loopS] at h ⊢
    generalize lineW (wordsL l) = W at h ⊢
    cases W with
    | nil =>
      obtain ⟨cfg, new, h1, h2, h3, h4, h5, h6⟩ := loop_first ls (i + 1) hl2 h
      exact ⟨cfg, new, h1, h2, h3, h4, by rw [tot_cons]; omega, h6⟩
    | cons w ws =>
      simp only at h ⊢
      by_cases h2 : (sysS (w :: ws)).2 = 0
      · rw [if_pos h2] at h ⊢
        obtain ⟨new, e1, e2, e3, e4, e5⟩ := loop_fwd ls (i + 1) (sysS (w :: ws)).1 [] hl2 (by simp) h
        exact ⟨_, new, by rw [e1]; rfl, sys_fwd _, e2, e3, by rw [tot_cons]; omega, by simpa using e5⟩
      · rw [if_neg h2] at h
        exact absurd h h2
theorem sysT_len {a b c d e : Nat} (ha : a ≤ 1073741824) (hb : b ≤ 1073741824) (hc : c ≤ 18446744073709551615) (hd : d ≤ 18446744073709551615) (he : e ≤ 18446744073709551615) : (sysT a b c d e).length ≤ 200 := by
  have h1 := decL_len a (by omega)
  have h2 := decL_len b (by omega)
  have h3 := decL_len c hc
  have h4 := decL_len d hd
  have h5 := decL_len e he
  have := join_tot (decL a) [decL b, decL c, decL d, decL e]
  simp only [tot_cons] at this
  unfold sysT
  simp only [List.map_cons, List.map_nil, List.length_append, List.length_cons, List.length_nil]
  have h0 : tot [] = 0 := rfl
  omega
theorem body_mem : ∀ (l : List Cmd) (c : Cmd), c ∈ l → (lineT c).length ≤ (bodyT l).length
  | d :: l, c, h => by
    have e : (bodyT (d :: l)).length = (lineT d).length + (bodyT l).length := by simp [bodyT]
    rcases List.mem_cons.1 h with rfl | h
    · omega
    · have := body_mem l c h; omega
theorem tot_append (a b : List (List UInt8)) : tot (a ++ b) = tot a + tot b := by simp [tot]
theorem tot_mem : ∀ (l : List (List UInt8)) (w : List UInt8), w ∈ l → w.length ≤ tot l
  | d :: l, w, h => by
    rw [tot_cons]
    rcases List.mem_cons.1 h with rfl | h
    · omega
    · have := tot_mem l w h; omega
theorem st_long : ∀ s, s < 4 → 1 ≤ s → 8 ≤ (stN s).length := by decide
theorem tot_states : ∀ (st : List Nat), (∀ s ∈ st, 1 ≤ s ∧ s ≤ 3) → 9 * st.length ≤ tot (st.map stN)
  | [], _ => Nat.zero_le _
  | s :: st, h => by
    have h1 := h s (by simp)
    have := st_long s (by omega) h1.1
    have := tot_states st fun x hx => h x (by simp [hx])
    rw [List.map_cons, tot_cons, List.length_cons]; omega
/-- a command that is written in a line of no great length -/
theorem cmdB_of {c : Cmd} (h : lineOK c = true) (hl : (lineT c).length ≤ 8001) (hn : ∀ x ∈ c.n, x ≤ 18446744073709551615) : CmdB c := by
  unfold lineOK at h
  simp only [Bool.and_eq_true, decide_eq_true_eq, Bool.not_eq_true'] at h
  obtain ⟨⟨⟨hop, hst⟩, hsp⟩, _⟩ := h
  obtain ⟨s1, s2, s3, s4, s5⟩ := not_spare hsp
  have hs : ∀ s ∈ c.st, 1 ≤ s ∧ s ≤ 3 := fun s hs => by
    have := List.all_eq_true.1 hst s hs
    simpa using this
  have ht : tot (wordsP c) = (lineT c).length := by
    obtain ⟨w, ws, e⟩ : ∃ w ws, wordsP c = w :: ws := ⟨_, _, rfl⟩
    have := join_tot w ws
    unfold lineT
    rw [e, List.length_append, ← this]; rfl
  have h4 : c.n.length ≤ 3 := by
    rw [s4]
    have : ∀ op, op < 12 → countL.getD op 0 ≤ 3 := by decide
    exact this _ hop
  refine ⟨by omega, by omega, ?_, by omega, ?_, hn, fun x hx => by have := hs x hx; omega⟩
  · cases ho : hasH c.op with
    | false => rw [s2 ho]; simp
    | true =>
      have := tot_mem (wordsP c) c.on (by unfold wordsP headW; rw [ho]; simp)
      omega
  · have h1 := tot_states c.st hs
    have : tot (wordsP c) = tot (headW c) + tot (c.st.map stN) + tot (c.n.map decL) := by unfold wordsP; rw [tot_append, tot_append]
    omega
/-- what is parsed of a text can be printed -/
theorem parse_print (t : List UInt8) (ht : t.length ≤ 8000) (h : (parseS t).err = 0) :
    ∃ cfg new, parseS t = ⟨cfg, new, 0, 0⟩ ∧ CfgB cfg ∧ (∀ c ∈ new, ∀ x ∈ c.n, x ≤ 18446744073709551615) ∧ new.all lineOK = true ∧ new.length ≤ 1000 ∧ (∀ c ∈ new, (lineT c).length ≤ 8001) ∧ (printS (Int.ofNat cfg.cores) (Int.ofNat cfg.tasks) cfg.tick cfg.slice cfg.origin new).2 = 0 := by
  unfold parseS at h ⊢
  rw [if_neg (by omega)] at h ⊢
  obtain ⟨cfg, new, h1, h2, h3, h4, h5, h6⟩ := loop_first _ 0 (fun l hl => (pieces_mem 10 t l hl).1) h
  rw [tot_pieces] at h5
  refine ⟨cfg, new, h1, h2, h4, h3, h6, fun c hc => ?_, ?_⟩
  · have := body_mem new c hc
    omega
  obtain ⟨b1, b2, b3, b4, b5⟩ := h2
  have hs := sysT_len b1 b2 b3 b4 b5
  unfold printS
  rw [if_neg (by omega), if_neg (by
    intro hn
    refine hn ⟨?_, ?_, ?_, ?_⟩
    · exact Int.natCast_nonneg _
    · show ((cfg.cores : Nat) : Int) ≤ _
      omega
    · exact Int.natCast_nonneg _
    · show ((cfg.tasks : Nat) : Int) ≤ _
      omega), if_pos h3, if_neg]
  rw [List.length_append]
  show ¬ _ < (sysT cfg.cores cfg.tasks cfg.tick cfg.slice cfg.origin).length + _
  omega
end Go.Proofs.YtkoccbggjfbgaaaGreatDoor
end
