/-
  strings.Builder's methods, with all that they leave as it was: each block but the builder's own and its row's. strings.Builder's Grow, of one that was never written, with all that it leaves as it was. strings.Builder's Grow, of one that was never written. strings.Builder's Len and String, with all that they leave as it was. strings.Builder: what the abstract machine says of it is so, where the kit's contracts are laid. strings.Builder's Grow, Len and String; Split, FieldsFunc; ParseUint; decimal numbers: what the abstract machine says of them is so, where the kit's contracts are laid. The strings functions that the abstract machine answers by itself, over any program that bears the kit's contracts' closures.
-/
import Derived.Test.YtkoccbggjfbgaaaGreatDoorK05
import Derived.Shelf.Strings.BuilderK
import Derived.Shelf.Strings.Builder2
import Derived.Test.YtkoccbggjfbgaaaGreatDoorK22
import Derived.Shelf.Strings.Split
import Derived.Shelf.Strings.FieldsFuncAny
import Derived.Shelf.Strconv.ParseUint10b64
import Derived.Shelf.Strings.BuilderF
set_option linter.all false

section
set_option linter.unusedVariables false
namespace Go.Eng
open Go.Shelf Go.RowKit Go.Proofs
variable {P : Program} {ρ : Ren}

/-- all but some blocks is as it was -/
structure Kept (r : Nat → Prop) (w w' : World) : Prop where
  size : w.heap.size ≤ w'.heap.size
  block : ∀ k, k < w.heap.size → ¬ r k → w'.heap[k]? = w.heap[k]?
  os : w'.os = w.os
  tape : w'.tape = w.tape
  output : w'.output = w.output

theorem Kept.refl (r : Nat → Prop) (w : World) : Kept r w w := ⟨Nat.le_refl _, fun _ _ _ => rfl, rfl, rfl, rfl⟩
theorem Kept.trans {r : Nat → Prop} {a b c : World} (h : Kept r a b) (k : Kept r b c) : Kept r a c :=
  ⟨Nat.le_trans h.size k.size, fun i hi hr => (k.block i (Nat.lt_of_lt_of_le hi h.size) hr).trans (h.block i hi hr), k.os.trans h.os, k.tape.trans h.tape, k.output.trans h.output⟩
theorem Kept.drew {r : Nat → Prop} {a b : World} (h : Kept r a b) : Kept r a b.drew := ⟨h.size, h.block, h.os, h.tape, h.output⟩
theorem Kept.alloc {r : Nat → Prop} {a b : World} (h : Kept r a b) (o : Obj) : Kept r a (b.alloc o) :=
  ⟨Nat.le_trans h.size (by simp), fun i hi hr => (Lib.alloc_old b o i (Nat.lt_of_lt_of_le hi h.size)).trans (h.block i hi hr), h.os, h.tape, h.output⟩
theorem Kept.setCell {r : Nat → Prop} {a b : World} (h : Kept r a b) (p : Addr) (hp : r p.block) (v : Value) : Kept r a (b.setCell p v) :=
  ⟨Nat.le_trans h.size (by simp [World.setCell]), fun i hi hr => (Below.heap_setCell b p v i (fun e => hr (by rw [e]; exact hp))).trans (h.block i hi hr), h.os, h.tape, h.output⟩
theorem Kept.grown {r : Nat → Prop} {a b c : World} {row : Option Nat} (h : Kept r a b) (g : b.grownBy c row) (hr : ∀ k, row = some k → r k) : Kept r a c :=
  ⟨Nat.le_trans h.size g.size, fun i hi hi' => (g.block i (Nat.lt_of_lt_of_le hi h.size) (fun e => hi' (hr i e.symm))).trans (h.block i hi hi'), g.os.trans h.os, g.tape.trans h.tape, g.output.trans h.output⟩

/-- append of a string to a row that is owned: where the row lies behind it -/
theorem run_append_x (w : World) (t u ty e : TypeId) (i : TypeInfo) (ht : P.underlying t = some (.slice e)) (hu : P.underlying u = some .string) (hi : P.info? e = some i) (hz : i.zero = some (.int .u8 0))
    (hsize : i.size = 1) (hby : i.bytes = 1)
    (v : Value) (n : Nat) (xs : List Value) (hown : w.ownsRowF 0 e 1 v n xs) (s : ByteArray)
    (h63 : n + s.size ≤ maxLen) (hbytes : n + s.size ≤ 140737488355328) :
    ∃ v' w', (Builtin.append_ #[t, u] ty #[v, .string s]).run P w = .ok v' w' ∧ w'.ownsRowF 0 e 1 v' (n + s.size) (xs ++ Lib.strCells s) ∧ w.grownBy w' v.ownBlock ∧
      (v' = .slice none 0 0 ↔ v = .slice none 0 0 ∧ s.size = 0) ∧ (v'.ownBlock = v.ownBlock ∨ ∃ g, v'.ownBlock = some g ∧ w.heap.size ≤ g) := by
  rcases hown.2 with ⟨rfl, rfl⟩ | ⟨g, cap, cur, fz, rfl, hbg, hg, hfz, hnc, hcm, hcs, htake⟩
  · obtain ⟨v', w', h1, h2, h3, h4⟩ := Lib.run_append_own_string (P := P) w w.heap.size t u ty e i ht hu hi hz hsize hby (.slice none 0 0) 0 xs ⟨hown.1, .inl ⟨rfl, rfl⟩⟩ s h63 hbytes (Nat.le_refl _)
    refine ⟨v', w', h1, ?_, h3, h4, ?_⟩
    · have := World.ownsRowF_of h2
      refine ⟨this.1, ?_⟩
      rcases this.2 with hn | ⟨g, cap, cur, fz, a, _, b⟩
      · exact .inl hn
      · exact .inr ⟨g, cap, cur, fz, a, Nat.zero_le _, b⟩
    · rcases h2.2 with ⟨hn, _⟩ | ⟨g, cap, cur, a, b, _⟩
      · left; rw [hn]
      · right; exact ⟨g, by rw [a]; rfl, b⟩
  · have hsmall : n + s.size ≤ 9223372036854775807 := by simp only [maxLen] at h63; omega
    have hxl : xs.length = n := by simpa using hown.1
    have hlen : (xs ++ Lib.strCells s).length = (n + s.size) * 1 := by rw [List.length_append, hxl, Lib.strCells_length, Nat.mul_one]
    by_cases hroom : n + s.size ≤ cap
    · have hcs' : cur.size = cap := by simpa using hcs
      have hr := Lib.run_append_room_stringF (P := P) w t u ty e i ht hu hi hsize g n cap cur fz hg (by simpa using hfz) s hroom (by omega)
      refine ⟨_, _, hr, ⟨hlen, .inr ⟨g, cap, _, fz, rfl, hbg, setRow_heap w g cur _ e _ hg, by omega, hroom, hcm, ?_, ?_⟩⟩, ⟨rfl, rfl, rfl, by simp, fun k _ hk => setRow_other w g k _ (fun e => hk (by simp [Value.ownBlock, e]))⟩, by simp, .inl rfl⟩
      · simp only [List.size_toArray, List.length_append, List.length_take, List.length_drop, Array.length_toList, Lib.strCells_length]
        omega
      · have ht' : cur.toList.take n = xs := by simpa using htake
        rw [ht', ← hlen]
        exact List.take_left
    · have holds : ∀ j u, xs[j]? = some u → w.cell? ((⟨g, 0, none⟩ : Addr).add j) = some u := hown.cells (g := g) rfl
      have hr := Lib.run_append_grow_string (P := P) w t u ty e i (.int .u8 0) ht hu hi hz ⟨g, 0, none⟩ n cap xs (by rw [hsize]; simpa using hxl) holds s (by omega) (by omega) (by rw [hby]; exact growslice_fits (by omega) (by omega))
      have hge := grownCap_ge w (n + s.size) cap e
      have hcm2 : grownCap w (n + s.size) cap e ≤ maxLen := grownCap_le_maxLen w (n + s.size) cap e h63
      refine ⟨_, _, hr, ⟨hlen, .inr ⟨w.heap.size, _, _, (0, 0), rfl, Nat.zero_le _, heap_alloc_new w.drew _, Nat.zero_le _, hge, hcm2, ?_, ?_⟩⟩, ⟨rfl, rfl, rfl, by simp, fun k hk _ => Lib.alloc_old w.drew _ k hk⟩, by simp, .inr ⟨w.heap.size, rfl, Nat.le_refl _⟩⟩
      · have hz1 : (Value.int IntKind.u8 0).cells.size = 1 := rfl
        simp only [Array.size_append, List.size_toArray, size_zeroCells, hz1, hxl, Lib.strCells_length]
        omega
      · simp only [Array.toList_append, List.append_assoc]
        rw [← List.append_assoc, ← hlen]
        exact List.take_left

/-- a row stays nil just where nothing is written -/
def Nild (v v' : Value) (s : ByteArray) : Prop := v' = .slice none 0 0 ↔ v = .slice none 0 0 ∧ s.size = 0

theorem wpList_append_x {w : World} {ops : Array Oper} {rest : List Oper} {o : Oper} {a : Act} {Q : Exit → Act → World → Prop} (hgd : o.guard = none) (sl x : Operand) (t u : TypeId)
    (ho : o.op = .call { callee := .builtin .append, args := #[sl, x], argTypes := #[t, u] })
    (e : TypeId) (i : TypeInfo) (ht : P.underlying t = some (.slice e)) (hu : P.underlying u = some .string) (hi : P.info? e = some i) (hz : i.zero = some (.int .u8 0))
    (hsize : i.size = 1) (hby : i.bytes = 1)
    (v : Value) (n : Nat) (xs : List Value) (hs : a.eval sl = v) (hown : w.ownsRowF 0 e 1 v n xs) (s : ByteArray) (hx : a.eval x = .string s)
    (h63 : n + s.size ≤ maxLen) (hbytes : n + s.size ≤ 140737488355328)
    (h : ∀ v' w', w'.ownsRowF 0 e 1 v' (n + s.size) (xs ++ Lib.strCells s) → w.grownBy w' v.ownBlock → Nild v v' s → (v'.ownBlock = v.ownBlock ∨ ∃ g, v'.ownBlock = some g ∧ w.heap.size ≤ g) →
      wpList P ops Q rest (a.put o.dst v') w') : wpList P ops Q (o :: rest) a w := by
  refine wpList_plain hgd fun K hK => ?_
  obtain ⟨v', w', hr, h2, h3, h4, h5⟩ := run_append_x (P := P) w t u o.type e i ht hu hi hz hsize hby v n xs hown s h63 hbytes
  unfold Oper.wp execOp
  simp only [ho, resolve, invoke, builtin, Sem.run_bind, Sem.run_pure, Result.andThen_ok, List.map_toArray, List.map_cons, List.map_nil, hs, hx, hr]
  exact hK _ _ (h v' w' h2 h3 h4 h5)

set_option maxHeartbeats 2000000 in
set_option maxRecDepth 100000 in
/-- WriteString -/
theorem bld_write (L : Lays.n166 P ρ) (X : Builder.Extra P ρ) (b : Nat) (p v : Value) (bs : List Value) (s : ByteArray) (w : World) (hp : p = .pointer none ∨ p = .pointer (some ⟨b, 0, none⟩))
    (hbk0 : w.heap[b]? = some (.cells #[p, v] (ρ.t 72) (0, 0))) (hown0 : w.ownsRowF 0 (ρ.t 5) 1 v bs.length bs) (hlen : bs.length + s.size ≤ 140737488355328) :
    Calls P (ρ.f 166) #[.pointer (some ⟨b, 0, none⟩), .string s] w fun e w' => e = .returned (.tuple #[.int .i64 s.size, .nilIface]) ∧ ∃ v',
      w'.heap[b]? = some (.cells #[.pointer (some ⟨b, 0, none⟩), v'] (ρ.t 72) (0, 0)) ∧ w'.ownsRowF 0 (ρ.t 5) 1 v' (bs.length + s.size) (bs ++ Lib.strCells s) ∧
      (v'.ownBlock = v.ownBlock ∨ ∃ g, v'.ownBlock = some g ∧ w.heap.size ≤ g) ∧ Nild v v' s ∧
      Kept (fun k => k = b ∨ v.ownBlock = some k) w w' := by
  obtain ⟨i0, hi, hz0, hz1, hz2⟩ := info_parts X.infoByte
  have hcc : Calls P (ρ.f 240) #[.pointer (some ⟨b, 0, none⟩)] w fun e w' => e = .returned (.tuple #[]) ∧ w'.heap[b]? = some (.cells #[.pointer (some ⟨b, 0, none⟩), v] (ρ.t 72) (0, 0)) ∧ w'.ownsRowF 0 (ρ.t 5) 1 v bs.length bs ∧ w'.heap.size = w.heap.size ∧
      Kept (fun k => k = b ∨ v.ownBlock = some k) w w' := by
    have hne := Lib.ownBlock_neF hown0 hbk0 X.neB5
    rcases hp with rfl | rfl
    · refine (Any.Builder_copyCheck_fresh { L with } X.toX72 b w (by rw [Lib.cell_of_heap hbk0]; rfl) (by simp [World.shape?, hbk0]) (Lib.frozen_of_heap hbk0 0)).mono ?_
      rintro e w' ⟨rfl, rfl⟩
      refine ⟨rfl, ?_, ?_, by simp [World.setCell], (Kept.refl _ w).setCell ⟨b, 0, none⟩ (.inl rfl) _⟩
      · simp [World.setCell, Array.getElem?_modify, hbk0]
      · exact hown0.kept (row := some b) ⟨rfl, rfl, rfl, by simp [World.setCell], fun k _ hk => Below.heap_setCell _ _ _ _ (fun e => hk (by simp [e]))⟩ (Or.inr hne)
    · refine (Any.Builder_copyCheck_used { L with } X.toX72 b w (by rw [Lib.cell_of_heap hbk0]; rfl)).mono ?_
      rintro e w' ⟨rfl, rfl⟩
      exact ⟨rfl, hbk0, hown0, rfl, Kept.refl _ w'⟩
  have mixed := L.mixed
  have t72 := L.t72; have a72 := L.a72; have z72 := L.z72; have v72 := L.v72; have u72 := run_underlying L.t72
  have t70 := L.t70; have a70 := L.a70; have z70 := L.z70; have v70 := L.v70; have u70 := run_underlying L.t70
  have t37 := L.t37; have a37 := L.a37; have z37 := L.z37; have v37 := L.v37; have u37 := run_underlying L.t37
  have t3 := L.t3; have a3 := L.a3; have z3 := L.z3; have v3 := L.v3; have u3 := run_underlying L.t3
  have t9 := L.t9; have a9 := L.a9; have z9 := L.z9; have v9 := L.v9; have u9 := run_underlying L.t9
  have t4 := L.t4; have a4 := L.a4; have z4 := L.z4; have v4 := L.v4; have u4 := run_underlying L.t4
  have t164 := L.t164; have a164 := L.a164; have z164 := L.z164; have v164 := L.v164; have u164 := run_underlying L.t164
  have t5 := X.t5; have a5 := X.a5; have z5 := X.z5; have v5 := X.v5; have u5 := run_underlying X.t5
  have e240 : ∀ args w, (callFunc (ρ.f 240) args).run P w = .ok (.enter (ρ.f 240) args) w := enters_of L.f240 (by kernel_rfl) rfl
  go_enter L.f166, Body.n166_ntmps ρ
  go_wp2_with (go_at_fn (ρ.f 240); refine hcc.mono ?_)
  rintro e w1 ⟨rfl, hbk, hown, hsz1, hk1⟩
  have hne := Lib.ownBlock_neF hown hbk X.neB5
  have c0 : w1.cell? ⟨b, 0, none⟩ = some (.pointer (some ⟨b, 0, none⟩)) := by rw [Lib.cell_of_heap hbk]; rfl
  have c1 : w1.cell? ⟨b, 1, none⟩ = some v := by rw [Lib.cell_of_heap hbk]; rfl
  go_wp2_with (at_builtin; refine wpList_append_x rfl _ _ (ρ.t 37) (ρ.t 9) rfl (ρ.t 5) i0 L.t37 L.t9 hi hz0 hz1 hz2 _ _ _ rfl hown s rfl ?c3 ?c4 ?_)
  case c3 => unfold maxLen; omega
  case c4 => omega
  intro v' w2 hown' hgrow hnil hwhere
  have hlt : b < w1.heap.size := by
    rcases Nat.lt_or_ge b w1.heap.size with h' | h'
    · exact h'
    · simp [Array.getElem?_eq_none h'] at hbk
  have hb2 : w2.heap[b]? = some (.cells #[.pointer (some ⟨b, 0, none⟩), v] (ρ.t 72) (0, 0)) := by
    rw [hgrow.block b hlt (fun e => hne e.symm)]
    exact hbk
  have d0 : w2.cell? ⟨b, 0, none⟩ = some (.pointer (some ⟨b, 0, none⟩)) := by rw [Lib.cell_of_heap hb2]; rfl
  have d1 : w2.cell? ⟨b, 1, none⟩ = some v := by rw [Lib.cell_of_heap hb2]; rfl
  have f1 : w2.frozen? ⟨b, 1, none⟩ = false := Lib.frozen_of_heap hb2 1
  obtain ⟨ao, n', cap, rfl⟩ : ∃ ao n' cap, v' = .slice ao n' cap := by
    rcases hown'.2 with ⟨hv, _⟩ | ⟨g, cap, cur, fz, hv, _⟩
    · exact ⟨_, _, _, hv⟩
    · exact ⟨_, _, _, hv⟩
  have hne' := Lib.ownBlock_neF hown' hb2 X.neB5
  go_wp2
  go_ret2
  refine ⟨rfl, _, ?_, ?_, ?_, hnil, ?_⟩
  · simp [World.setCell, Array.getElem?_modify, hb2]
  · exact hown'.kept (row := some b) ⟨rfl, rfl, rfl, by simp [World.setCell], fun k _ hk => Below.heap_setCell _ _ _ _ (fun e => hk (by simp [e]))⟩ (Or.inr hne')
  · exact hwhere
  · exact (hk1.grown hgrow (fun k hk => .inr hk)).setCell ⟨b, 1, none⟩ (.inl rfl) _

end Go.Eng
end

section
set_option linter.unusedVariables false
namespace Go.Eng
open Go.Shelf Go.RowKit Go.Proofs
variable {P : Program} {ρ : Ren}

/-- a builder without a row has one now -/
def Grew (tb e b : Nat) (w w' : World) : Prop := ∃ cs : Array Value, cs.size ≤ maxLen ∧ w'.heap.size = w.heap.size + 1 ∧ w'.heap[w.heap.size]? = some (.cells cs e (0, 0)) ∧
  w'.heap[b]? = some (.cells #[.pointer (some ⟨b, 0, none⟩), .slice (some ⟨w.heap.size, 0, none⟩) 0 cs.size] tb (0, 0)) ∧ Kept (fun k => k = b) w w'
/-- it is used, without a row -/
def Used (tb b : Nat) (w w' : World) : Prop := w'.heap.size = w.heap.size ∧ w'.heap[b]? = some (.cells #[.pointer (some ⟨b, 0, none⟩), .slice none 0 0] tb (0, 0)) ∧ Kept (fun k => k = b) w w'

theorem grew_of {tb e b : Nat} {w : World} {cs : Array Value} (hm : cs.size ≤ maxLen) (hbk : w.heap[b]? = some (.cells #[.pointer (some ⟨b, 0, none⟩), .slice none 0 0] tb (0, 0))) :
    Grew tb e b w (((w.alloc (.cells cs e)).setCell ⟨b, 1, none⟩ (.slice (some ⟨w.heap.size, 0, none⟩) 0 cs.size)).drew.drew.drew) := by
  have hlt : b < w.heap.size := by
    rcases Nat.lt_or_ge b w.heap.size with h' | h'
    · exact h'
    · simp [Array.getElem?_eq_none h'] at hbk
  refine ⟨cs, hm, ?_, ?_, ?_, ((((Kept.refl (fun k => k = b) w).alloc _).setCell ⟨b, 1, none⟩ (show b = b from rfl) _).drew).drew.drew⟩
  · show ((w.alloc (.cells cs e)).setCell ⟨b, 1, none⟩ _).heap.size = _
    simp [World.setCell]
  · show ((w.alloc (.cells cs e)).setCell ⟨b, 1, none⟩ _).heap[w.heap.size]? = _
    rw [Below.heap_setCell _ _ _ _ (by show w.heap.size ≠ b; omega)]
    exact heap_alloc_new w _
  · show ((w.alloc (.cells cs e)).setCell ⟨b, 1, none⟩ _).heap[b]? = _
    have e2 : (w.alloc (.cells cs e)).heap[b]? = some (.cells #[.pointer (some ⟨b, 0, none⟩), .slice none 0 0] tb (0, 0)) := (Lib.alloc_old w _ b hlt).trans hbk
    simp only [World.setCell, Array.getElem?_modify, e2]
    simp

theorem grew_of2 {tb e b : Nat} {w : World} {cs : Array Value} (hm : cs.size ≤ maxLen) (hbk : w.heap[b]? = some (.cells #[.pointer (some ⟨b, 0, none⟩), .slice none 0 0] tb (0, 0))) :
    Grew tb e b w (((w.setCell ⟨b, 1, none⟩ (.slice (some ⟨w.heap.size, 0, none⟩) 0 cs.size)).alloc (.cells cs e)).drew.drew.drew) := by
  have hlt : b < w.heap.size := by
    rcases Nat.lt_or_ge b w.heap.size with h' | h'
    · exact h'
    · simp [Array.getElem?_eq_none h'] at hbk
  have hs : (w.setCell ⟨b, 1, none⟩ (.slice (some ⟨w.heap.size, 0, none⟩) 0 cs.size)).heap.size = w.heap.size := by simp [World.setCell]
  have e2 : (w.setCell ⟨b, 1, none⟩ (.slice (some ⟨w.heap.size, 0, none⟩) 0 cs.size)).heap[b]? = some (.cells #[.pointer (some ⟨b, 0, none⟩), .slice (some ⟨w.heap.size, 0, none⟩) 0 cs.size] tb (0, 0)) := by
    simp [World.setCell, Array.getElem?_modify, hbk]
  refine ⟨cs, hm, ?_, ?_, ?_, ((((Kept.refl (fun k => k = b) w).setCell ⟨b, 1, none⟩ (show b = b from rfl) _).alloc _).drew).drew.drew⟩
  · show ((w.setCell ⟨b, 1, none⟩ _).alloc (.cells cs e)).heap.size = _
    rw [show ((w.setCell ⟨b, 1, none⟩ (.slice (some ⟨w.heap.size, 0, none⟩) 0 cs.size)).alloc (.cells cs e)).heap.size = (w.setCell ⟨b, 1, none⟩ (.slice (some ⟨w.heap.size, 0, none⟩) 0 cs.size)).heap.size + 1 by simp, hs]
  · have := heap_alloc_new (w.setCell ⟨b, 1, none⟩ (.slice (some ⟨w.heap.size, 0, none⟩) 0 cs.size)) (.cells cs e)
    rw [hs] at this
    exact this
  · exact (Lib.alloc_old _ _ b (by rw [hs]; exact hlt)).trans e2

theorem Grew.of_used {tb e b : Nat} {w w1 w' : World} (hs : w1.heap.size = w.heap.size) (hk : Kept (fun k => k = b) w w1) (h : Grew tb e b w1 w') : Grew tb e b w w' := by
  obtain ⟨cs, h1, h2, h3, h4, h5⟩ := h
  rw [hs] at h2 h3 h4
  exact ⟨cs, h1, h2, h3, h4, hk.trans h5⟩

set_option maxHeartbeats 2000000 in
set_option maxRecDepth 1000000 in
theorem bld_grow_fresh (L : Lays.n241 P ρ) (X : Builder.Extra P ρ) (b n : Nat) (w : World) (hbk : w.heap[b]? = some (.cells #[.pointer (some ⟨b, 0, none⟩), .slice none 0 0] (ρ.t 72) (0, 0))) (hn : n ≤ 281474976710656) :
    Calls P (ρ.f 241) #[.pointer (some ⟨b, 0, none⟩), .int .i64 n] w fun e w' => e = .returned (.tuple #[]) ∧ Grew (ρ.t 72) (ρ.t 5) b w w' := by
  obtain ⟨cs, hrun, hle, hmax⟩ := Lib.run_makeNoZero (P := P) w.drew #[(ρ.t 3)] (ρ.t 37) (ρ.t 5) L.t37 n hn
  have hw : IntKind.i64.wrap (IntKind.i64.wrap 0 + (n : Int)) = n := by
    rw [IntKind.wrap_i64, IntKind.wrap_i64]
    omega
  have hcall : (callFunc (ρ.f 277) #[.int .i64 (IntKind.i64.wrap (IntKind.i64.wrap 0 + (n : Int)))]).run P w.drew = .ok (.value (.slice (some ⟨w.drew.heap.size, 0, none⟩) n cs.size)) (w.drew.drew.drew.alloc (.cells cs (ρ.t 5))) := by
    rw [hw, run_callFunc_extern L.f277 (by kernel_rfl) (by kernel_rfl) (by kernel_rfl) (e := Extern.BytealgMakeNoZero.makeNoZero #[(ρ.t 3)] #[(ρ.t 37)]) (by kernel_rfl), hrun]
    rfl
  have c1 : w.drew.cell? ⟨b, 1, none⟩ = some (.slice none 0 0) := by
    have : w.drew.heap[b]? = _ := hbk
    rw [Lib.cell_of_heap this]; rfl
  have hlt : b < w.heap.size := by
    rcases Nat.lt_or_ge b w.heap.size with h' | h'
    · exact h'
    · simp [Array.getElem?_eq_none h'] at hbk
  have c2 : (w.alloc (.cells cs (ρ.t 5))).cell? ⟨b, 1, none⟩ = some (.slice none 0 0) := by
    have : (w.alloc (.cells cs (ρ.t 5))).heap[b]? = _ := (Lib.alloc_old w _ b hlt).trans hbk
    rw [Lib.cell_of_heap this]; rfl
  have f2 : (w.alloc (.cells cs (ρ.t 5))).frozen? ⟨b, 1, none⟩ = false := Lib.frozen_of_heap ((Lib.alloc_old w _ b hlt).trans hbk) 1
  have hcopy : ∀ W : World, (Builtin.copy_ #[(ρ.t 37), (ρ.t 37)] (ρ.t 3) #[.slice (some ⟨w.heap.size, 0, none⟩) 0 cs.size, .slice none 0 0]).run P W = .ok (goInt 0) W :=
    fun W => run_copy_none W (ρ.t 37) (ρ.t 37) (ρ.t 3) (ρ.t 5) _ _ 0 cs.size 0 0 L.t37 X.sizeByte rfl
  clear hw
  have mixed := L.mixed
  have t72 := L.t72; have a72 := L.a72; have z72 := L.z72; have v72 := L.v72; have u72 := run_underlying L.t72
  have t70 := L.t70; have a70 := L.a70; have z70 := L.z70; have v70 := L.v70; have u70 := run_underlying L.t70
  have t37 := L.t37; have a37 := L.a37; have z37 := L.z37; have v37 := L.v37; have u37 := run_underlying L.t37
  have t3 := L.t3; have a3 := L.a3; have z3 := L.z3; have v3 := L.v3; have u3 := run_underlying L.t3
  have t5 := X.t5; have a5 := X.a5; have z5 := X.z5; have v5 := X.v5; have u5 := run_underlying X.t5
  have hfin := grew_of (tb := ρ.t 72) (e := ρ.t 5) (hmax (by unfold maxLen; omega)) hbk
  have hfin2 := grew_of2 (tb := ρ.t 72) (e := ρ.t 5) (hmax (by unfold maxLen; omega)) hbk
  go_enter L.f241, Body.n241_ntmps ρ
  go_wp2
  go_region_o
  all_goals (go_wp2; go_end0; first | exact ⟨rfl, hfin2⟩ | exact ⟨rfl, hfin⟩)

end Go.Eng
end

section
set_option linter.unusedVariables false
namespace Go.Eng
open Go.Shelf Go.RowKit Go.Proofs
variable {P : Program} {ρ : Ren}

set_option maxHeartbeats 2000000 in
set_option maxRecDepth 1000000 in
/-- Grow, of one that was never written -/
theorem bld_Grow (L : Lays.n165 P ρ) (X : Builder.Extra P ρ) (b n : Nat) (w : World) (hbk : w.heap[b]? = some (.cells #[.pointer none, .slice none 0 0] (ρ.t 72) (0, 0))) (hn : n ≤ 281474976710656) :
    Calls P (ρ.f 165) #[.pointer (some ⟨b, 0, none⟩), .int .i64 n] w fun e w' => e = .returned (.tuple #[]) ∧
      ((1 ≤ n ∧ Grew (ρ.t 72) (ρ.t 5) b w w') ∨ (n = 0 ∧ Used (ρ.t 72) b w w')) := by
  have hbk1 : (w.setCell ⟨b, 0, none⟩ (.pointer (some ⟨b, 0, none⟩))).heap[b]? = some (.cells #[.pointer (some ⟨b, 0, none⟩), .slice none 0 0] (ρ.t 72) (0, 0)) := by
    simp [World.setCell, Array.getElem?_modify, hbk]
  have c1 : (w.setCell ⟨b, 0, none⟩ (.pointer (some ⟨b, 0, none⟩))).cell? ⟨b, 1, none⟩ = some (.slice none 0 0) := by rw [Lib.cell_of_heap hbk1]; rfl
  have hlt : b < w.heap.size := by
    rcases Nat.lt_or_ge b w.heap.size with h' | h'
    · exact h'
    · simp [Array.getElem?_eq_none h'] at hbk
  have hk0 : Kept (fun k => k = b) w (w.setCell ⟨b, 0, none⟩ (.pointer (some ⟨b, 0, none⟩))) := (Kept.refl (fun k => k = b) w).setCell ⟨b, 0, none⟩ (show b = b from rfl) _
  have hsz0 : (w.setCell ⟨b, 0, none⟩ (.pointer (some ⟨b, 0, none⟩))).heap.size = w.heap.size := by simp [World.setCell]
  have mixed := L.mixed
  have t72 := L.t72; have a72 := L.a72; have z72 := L.z72; have v72 := L.v72; have u72 := run_underlying L.t72
  have t70 := L.t70; have a70 := L.a70; have z70 := L.z70; have v70 := L.v70; have u70 := run_underlying L.t70
  have t37 := L.t37; have a37 := L.a37; have z37 := L.z37; have v37 := L.v37; have u37 := run_underlying L.t37
  have t3 := L.t3; have a3 := L.a3; have z3 := L.z3; have v3 := L.v3; have u3 := run_underlying L.t3
  have t9 := L.t9; have a9 := L.a9; have z9 := L.z9; have v9 := L.v9; have u9 := run_underlying L.t9
  have t4 := L.t4; have a4 := L.a4; have z4 := L.z4; have v4 := L.v4; have u4 := run_underlying L.t4
  have t164 := L.t164; have a164 := L.a164; have z164 := L.z164; have v164 := L.v164; have u164 := run_underlying L.t164
  have t5 := X.t5; have a5 := X.a5; have z5 := X.z5; have v5 := X.v5; have u5 := run_underlying X.t5
  have e240 : ∀ args w, (callFunc (ρ.f 240) args).run P w = .ok (.enter (ρ.f 240) args) w := enters_of L.f240 (by kernel_rfl) rfl
  have e241 : ∀ args w, (callFunc (ρ.f 241) args).run P w = .ok (.enter (ρ.f 241) args) w := enters_of L.f241 (by kernel_rfl) rfl
  go_enter L.f165, Body.n165_ntmps ρ
  have c1' : (w.setCell ⟨b, 0, none⟩ (.pointer (some ⟨b, 0, none⟩))).drew.cell? ⟨b, 1, none⟩ = some (.slice none 0 0) := c1
  go_wp2_with (go_at_fn (ρ.f 240); refine (Any.Builder_copyCheck_fresh { L with } X.toX72 b w (by rw [Lib.cell_of_heap hbk]; rfl) (by simp [World.shape?, hbk]) (Lib.frozen_of_heap hbk 0)).mono ?_; rintro e w' ⟨rfl, rfl⟩)
  go_region_o
  all_goals go_wp2_with (go_at_fn (ρ.f 241); refine (bld_grow_fresh { L with } X b n (w.setCell ⟨b, 0, none⟩ (.pointer (some ⟨b, 0, none⟩))).drew hbk1 hn).mono ?_; rintro e w' ⟨rfl, h1⟩)
  all_goals go_end0
  all_goals first
    | (refine ⟨rfl, .inl ⟨by omega, ?_⟩⟩; exact Grew.of_used (w1 := (w.setCell ⟨b, 0, none⟩ (.pointer (some ⟨b, 0, none⟩))).drew) hsz0 hk0.drew h1)
    | (refine ⟨rfl, .inr ⟨by omega, ?_⟩⟩; exact ⟨hsz0, hbk1, hk0.drew⟩)

end Go.Eng
end

section
set_option linter.unusedVariables false
namespace Go.Eng
open Go.Shelf Go.RowKit Go.Proofs
variable {P : Program} {ρ : Ren}

/-- some of the row g is frozen now; all else is as it was -/
def Froze (e g n : Nat) (cur : Array Value) (w w' : World) : Prop := ∃ fz : Nat × Nat, w'.heap[g]? = some (.cells cur e fz) ∧ fz.2 ≤ n ∧ Kept (fun k => k = g) w w'

theorem froze_of {e g n : Nat} {cur : Array Value} {fz : Nat × Nat} {w : World} (hg : w.heap[g]? = some (.cells cur e fz)) (hfz : fz.2 ≤ n) : Froze e g n cur w (w.drew.freeze ⟨g, 0, none⟩ n) := by
  have hg' : w.drew.heap[g]? = some (.cells cur e fz) := hg
  unfold World.freeze
  split
  · exact ⟨fz, hg, hfz, (Kept.refl _ w).drew⟩
  · obtain ⟨lo, hi⟩ := fz
    refine ⟨if lo == hi then (0, 0 + n) else (min lo 0, max hi (0 + n)), ?_, ?_, ⟨by simp [World.drew, -World.drew_eq], ?_, rfl, rfl, rfl⟩⟩
    · simp only [Array.getElem?_modify, hg']
      simp
    · simp only at hfz
      split <;> simp <;> omega
    · intro k hk hne
      simp only [Array.getElem?_modify]
      rw [if_neg (fun e => hne e.symm)]
      rfl

set_option maxHeartbeats 1000000 in
set_option maxRecDepth 100000 in
theorem bld_str_row (L : Lays.n169 P ρ) (X : Builder.Extra P ρ) (b g cap : Nat) (p : Value) (cur : Array Value) (fz : Nat × Nat) (l : List UInt8) (w : World) (h0 : l ≠ []) (hbk : w.heap[b]? = some (.cells #[p, .slice (some ⟨g, 0, none⟩) l.length cap] (ρ.t 72) (0, 0)))
    (hown : w.ownsRowF 0 (ρ.t 5) 1 (.slice (some ⟨g, 0, none⟩) l.length cap) l.length (Lib.byteCells l)) (hg : w.heap[g]? = some (.cells cur (ρ.t 5) fz)) (hfz : fz.2 ≤ l.length) (hnc : l.length ≤ cap) (hcm : cap ≤ maxLen) (hcs : cur.size = cap) :
    Calls P (ρ.f 169) #[.pointer (some ⟨b, 0, none⟩)] w fun e w' => e = .returned (.string ⟨l.toArray⟩) ∧ Froze (ρ.t 5) g l.length cur w w' := by
  have hl0 : l.length ≠ 0 := by simpa using h0
  have c1 : w.drew.cell? ⟨b, 1, none⟩ = some (.slice (some ⟨g, 0, none⟩) l.length cap) := by
    have : w.drew.heap[b]? = some (.cells #[p, .slice (some ⟨g, 0, none⟩) l.length cap] (ρ.t 72) (0, 0)) := hbk
    rw [Lib.cell_of_heap this]; rfl
  have hSD : (Builtin.unsafeSliceData_ #[(ρ.t 37)] (ρ.t 127) #[.slice (some ⟨g, 0, none⟩) l.length cap]).run P w.drew = .ok (.pointer (some ⟨g, 0, none⟩)) w.drew :=
    Lib.run_unsafeSliceData_row _ _ _ _ _ _ (by omega)
  have hUS : (Builtin.unsafeString_ #[(ρ.t 127), (ρ.t 3)] (ρ.t 9) #[.pointer (some ⟨g, 0, none⟩), .int .i64 l.length]).run P w.drew = .ok (.string ⟨l.toArray⟩) (w.drew.freeze ⟨g, 0, none⟩ l.length) := by
    refine Lib.run_unsafeString_row w.drew (ρ.t 127) (ρ.t 3) (ρ.t 9) (ρ.t 5) L.t127 X.cellsByte g cur.size (by have hg' : w.drew.heap[g]? = some (.cells cur (ρ.t 5) fz) := hg; simp [World.shape?, hg']) l h0 (by omega) (by unfold maxLen at hcm; omega) ?_
    intro j x hx
    have := hown.cells (g := g) rfl j (.int .u8 x.toNat) (by simp [Lib.byteCells, hx])
    exact this
  have hkeep := froze_of hg hfz
  have mixed := L.mixed
  have t72 := L.t72; have a72 := L.a72; have z72 := L.z72; have v72 := L.v72; have u72 := run_underlying L.t72
  have t70 := L.t70; have a70 := L.a70; have z70 := L.z70; have v70 := L.v70; have u70 := run_underlying L.t70
  have t37 := L.t37; have a37 := L.a37; have z37 := L.z37; have v37 := L.v37; have u37 := run_underlying L.t37
  have t127 := L.t127; have a127 := L.a127; have z127 := L.z127; have v127 := L.v127; have u127 := run_underlying L.t127
  have t3 := L.t3; have a3 := L.a3; have z3 := L.z3; have v3 := L.v3; have u3 := run_underlying L.t3
  have t9 := L.t9; have a9 := L.a9; have z9 := L.z9; have v9 := L.v9; have u9 := run_underlying L.t9
  have t5 := X.t5; have a5 := X.a5; have z5 := X.z5; have v5 := X.v5; have u5 := run_underlying X.t5
  go_enter L.f169, Body.n169_ntmps ρ
  go_wp2
  go_region_o
  all_goals (go_wp2; go_ret; exact ⟨rfl, hkeep⟩)

/-- nothing is turned -/
def Still (w w' : World) : Prop := Kept (fun _ => False) w w'

set_option maxHeartbeats 2000000 in
set_option maxRecDepth 100000 in
theorem bld_str_nil (L : Lays.n169 P ρ) (X : Builder.Extra P ρ) (b : Nat) (p : Value) (w : World) (hbk : w.heap[b]? = some (.cells #[p, .slice none 0 0] (ρ.t 72) (0, 0))) :
    Calls P (ρ.f 169) #[.pointer (some ⟨b, 0, none⟩)] w fun e w' => e = .returned (.string ⟨#[]⟩) ∧ Still w w' := by
  have hUS := Any.unsafeString_none L X
  have c1 : w.drew.cell? ⟨b, 1, none⟩ = some (.slice none 0 0) := by
    have : w.drew.heap[b]? = some (.cells #[p, .slice none 0 0] (ρ.t 72) (0, 0)) := hbk
    rw [Lib.cell_of_heap this]; rfl
  have hSD : (Builtin.unsafeSliceData_ #[(ρ.t 37)] (ρ.t 127) #[.slice none 0 0]).run P w.drew = .ok (.pointer none) w.drew := rfl
  have hfin : Still w w.drew := (Kept.refl _ w).drew
  have mixed := L.mixed
  have t72 := L.t72; have a72 := L.a72; have z72 := L.z72; have v72 := L.v72; have u72 := run_underlying L.t72
  have t70 := L.t70; have a70 := L.a70; have z70 := L.z70; have v70 := L.v70; have u70 := run_underlying L.t70
  have t37 := L.t37; have a37 := L.a37; have z37 := L.z37; have v37 := L.v37; have u37 := run_underlying L.t37
  have t127 := L.t127; have a127 := L.a127; have z127 := L.z127; have v127 := L.v127; have u127 := run_underlying L.t127
  have t3 := L.t3; have a3 := L.a3; have z3 := L.z3; have v3 := L.v3; have u3 := run_underlying L.t3
  have t9 := L.t9; have a9 := L.a9; have z9 := L.z9; have v9 := L.v9; have u9 := run_underlying L.t9
  have t5 := X.t5; have a5 := X.a5; have z5 := X.z5; have v5 := X.v5; have u5 := run_underlying X.t5
  go_enter L.f169, Body.n169_ntmps ρ
  go_wp2
  go_region_o
  all_goals (go_wp2; go_ret; exact ⟨rfl, hfin⟩)

set_option maxHeartbeats 2000000 in
set_option maxRecDepth 100000 in
theorem bld_str_noroom (L : Lays.n169 P ρ) (X : Builder.Extra P ρ) (b g : Nat) (p : Value) (cur : Array Value) (w : World) (hbk : w.heap[b]? = some (.cells #[p, .slice (some ⟨g, 0, none⟩) 0 0] (ρ.t 72) (0, 0))) (fz : Nat × Nat) (hg : w.heap[g]? = some (.cells cur (ρ.t 5) fz)) :
    Calls P (ρ.f 169) #[.pointer (some ⟨b, 0, none⟩)] w fun e w' => e = .returned (.string ⟨#[]⟩) ∧ Still w w' := by
  have hUS := Any.unsafeString_none L X
  have hlt : b < w.heap.size := by
    rcases Nat.lt_or_ge b w.heap.size with h' | h'
    · exact h'
    · simp [Array.getElem?_eq_none h'] at hbk
  have c1 : w.drew.cell? ⟨b, 1, none⟩ = some (.slice (some ⟨g, 0, none⟩) 0 0) := by
    have : w.drew.heap[b]? = some (.cells #[p, .slice (some ⟨g, 0, none⟩) 0 0] (ρ.t 72) (0, 0)) := hbk
    rw [Lib.cell_of_heap this]; rfl
  have hSD : (Builtin.unsafeSliceData_ #[(ρ.t 37)] (ρ.t 127) #[.slice (some ⟨g, 0, none⟩) 0 0]).run P w.drew = .ok (.pointer (some ⟨w.drew.heap.size, 0, none⟩)) (w.drew.alloc (.view ⟨g, 0, none⟩ (ρ.t 5))) :=
    Lib.run_unsafeSliceData_zero w.drew _ _ (ρ.t 5) L.t127 ⟨g, 0, none⟩ 0 ((ρ.t 5), cur.size) (by have hg' : w.drew.heap[g]? = some (.cells cur (ρ.t 5) fz) := hg; simp [World.shape?, hg'])
  have c2 : (w.drew.alloc (.view ⟨g, 0, none⟩ (ρ.t 5))).cell? ⟨b, 1, none⟩ = some (.slice (some ⟨g, 0, none⟩) 0 0) := by
    have : (w.drew.alloc (.view ⟨g, 0, none⟩ (ρ.t 5))).heap[b]? = _ := (Lib.alloc_old w.drew _ b hlt).trans hbk
    rw [Lib.cell_of_heap this]; rfl
  have c3 : (w.alloc (.view ⟨g, 0, none⟩ (ρ.t 5))).drew.cell? ⟨b, 1, none⟩ = some (.slice (some ⟨g, 0, none⟩) 0 0) := c2
  have c0 : w.cell? ⟨b, 1, none⟩ = some (.slice (some ⟨g, 0, none⟩) 0 0) := c1
  have hfin : Still w (w.drew.alloc (.view ⟨g, 0, none⟩ (ρ.t 5))) := (Kept.refl _ w).drew.alloc _
  have mixed := L.mixed
  have t72 := L.t72; have a72 := L.a72; have z72 := L.z72; have v72 := L.v72; have u72 := run_underlying L.t72
  have t70 := L.t70; have a70 := L.a70; have z70 := L.z70; have v70 := L.v70; have u70 := run_underlying L.t70
  have t37 := L.t37; have a37 := L.a37; have z37 := L.z37; have v37 := L.v37; have u37 := run_underlying L.t37
  have t127 := L.t127; have a127 := L.a127; have z127 := L.z127; have v127 := L.v127; have u127 := run_underlying L.t127
  have t3 := L.t3; have a3 := L.a3; have z3 := L.z3; have v3 := L.v3; have u3 := run_underlying L.t3
  have t9 := L.t9; have a9 := L.a9; have z9 := L.z9; have v9 := L.v9; have u9 := run_underlying L.t9
  have t5 := X.t5; have a5 := X.a5; have z5 := X.z5; have v5 := X.v5; have u5 := run_underlying X.t5
  go_enter L.f169, Body.n169_ntmps ρ
  go_wp2
  go_region_o
  all_goals (go_wp2; go_ret; exact ⟨rfl, hfin⟩)

set_option maxHeartbeats 2000000 in
set_option maxRecDepth 100000 in
theorem bld_str_room (L : Lays.n169 P ρ) (X : Builder.Extra P ρ) (b g cap : Nat) (p : Value) (w : World) (hc0 : cap ≠ 0) (hbk : w.heap[b]? = some (.cells #[p, .slice (some ⟨g, 0, none⟩) 0 cap] (ρ.t 72) (0, 0))) :
    Calls P (ρ.f 169) #[.pointer (some ⟨b, 0, none⟩)] w fun e w' => e = .returned (.string ⟨#[]⟩) ∧ Still w w' := by
  have hUS := Any.unsafeString_none L X
  have c1 : w.drew.cell? ⟨b, 1, none⟩ = some (.slice (some ⟨g, 0, none⟩) 0 cap) := by
    have : w.drew.heap[b]? = some (.cells #[p, .slice (some ⟨g, 0, none⟩) 0 cap] (ρ.t 72) (0, 0)) := hbk
    rw [Lib.cell_of_heap this]; rfl
  have hSD : (Builtin.unsafeSliceData_ #[(ρ.t 37)] (ρ.t 127) #[.slice (some ⟨g, 0, none⟩) 0 cap]).run P w.drew = .ok (.pointer (some ⟨g, 0, none⟩)) w.drew :=
    Lib.run_unsafeSliceData_row _ _ _ _ _ _ hc0
  have hfin : Still w w.drew := (Kept.refl _ w).drew
  clear hc0
  have mixed := L.mixed
  have t72 := L.t72; have a72 := L.a72; have z72 := L.z72; have v72 := L.v72; have u72 := run_underlying L.t72
  have t70 := L.t70; have a70 := L.a70; have z70 := L.z70; have v70 := L.v70; have u70 := run_underlying L.t70
  have t37 := L.t37; have a37 := L.a37; have z37 := L.z37; have v37 := L.v37; have u37 := run_underlying L.t37
  have t127 := L.t127; have a127 := L.a127; have z127 := L.z127; have v127 := L.v127; have u127 := run_underlying L.t127
  have t3 := L.t3; have a3 := L.a3; have z3 := L.z3; have v3 := L.v3; have u3 := run_underlying L.t3
  have t9 := L.t9; have a9 := L.a9; have z9 := L.z9; have v9 := L.v9; have u9 := run_underlying L.t9
  have t5 := X.t5; have a5 := X.a5; have z5 := X.z5; have v5 := X.v5; have u5 := run_underlying X.t5
  go_enter L.f169, Body.n169_ntmps ρ
  go_wp2
  go_region_o
  all_goals (go_wp2; go_ret; exact ⟨rfl, hfin⟩)

end Go.Eng
end

section
open Go.RowKit
namespace Go.Eng

/-- an object is otherwise, another is new, in a block that is new or that of an object that is gone -/
theorem Rel.put2 {h : H} {φ : Pl} {w w' : World} {o : Nat} {x z y : AObj} {p : Pt} {g' sz : Nat} (dead : Option Nat) (a : Rel h φ w) (ho : h.get o = some x) (hp : φ o = some p)
    (hd : ∀ r, dead = some r → r ≠ o ∧ ∃ xr q, h.get r = some xr ∧ φ r = some q)
    (hk : Kept (fun k => k = p.b ∨ ∃ r q, dead = some r ∧ φ r = some q ∧ q.b = k) w w')
    (hg : (∃ r q, dead = some r ∧ φ r = some q ∧ q.b = g') ∨ w.heap.size ≤ g')
    (hz : OR (φ.add h.next ⟨g', 0, sz⟩) w' p z) (hy : OR (φ.add h.next ⟨g', 0, sz⟩) w' ⟨g', 0, sz⟩ y) :
    Rel (((match dead with | some r => h.del r | none => h).new y).set o z) (φ.add h.next ⟨g', 0, sz⟩) w' ∧
    Step h φ w (((match dead with | some r => h.del r | none => h).new y).set o z) (φ.add h.next ⟨g', 0, sz⟩) w' := by
  have hn : φ h.next = none := a.fresh _ (Nat.le_refl _)
  have hx := Pl.add_ext (φ := φ) ⟨g', 0, sz⟩ hn
  have hon : o ≠ h.next := fun e => by rw [e, hn] at hp; simp at hp
  have hplt : p.b < w.heap.size := by obtain ⟨q, hq, hor⟩ := a.obj _ _ ho; rw [hp] at hq; simp only [Option.some.injEq] at hq; subst hq; exact hor.lt
  have hnext : (match dead with | some r => h.del r | none => h).next = h.next := by cases dead <;> rfl
  have hget : ∀ k u, (match dead with | some r => h.del r | none => h).get k = some u → h.get k = some u ∧ dead ≠ some k := by
    intro k u hu
    cases dead with
    | none => exact ⟨hu, by simp⟩
    | some r =>
      simp only at hu
      rw [H.get_del] at hu
      split at hu
      · simp at hu
      · rename_i hne
        exact ⟨hu, fun e => hne (by simpa using e.symm)⟩
  have key : ∀ k u q, (((match dead with | some r => h.del r | none => h).new y).set o z).get k = some u → (φ.add h.next ⟨g', 0, sz⟩) k = some q →
      (k = o ∧ u = z ∧ q = p) ∨ (k = h.next ∧ u = y ∧ q = ⟨g', 0, sz⟩) ∨ (k ≠ o ∧ k ≠ h.next ∧ h.get k = some u ∧ dead ≠ some k ∧ φ k = some q) := by
    intro k u q hu hq
    rw [H.get_set] at hu
    by_cases e : k = o
    · subst e
      simp only [if_true, Option.some.injEq] at hu
      simp only [Pl.add, if_neg hon] at hq
      rw [hp] at hq; simp only [Option.some.injEq] at hq
      exact .inl ⟨rfl, hu.symm, hq.symm⟩
    · rw [if_neg e, H.get_new, hnext] at hu
      by_cases e2 : k = h.next
      · subst e2
        simp only [if_true, Option.some.injEq] at hu
        rw [Pl.add_self] at hq; simp only [Option.some.injEq] at hq
        exact .inr (.inl ⟨rfl, hu.symm, hq.symm⟩)
      · rw [if_neg e2] at hu
        simp only [Pl.add, if_neg e2] at hq
        obtain ⟨h1, h2⟩ := hget k u hu
        exact .inr (.inr ⟨e, e2, h1, h2, hq⟩)
  have away : ∀ k u q, k ≠ o → h.get k = some u → dead ≠ some k → φ k = some q → q.b ≠ p.b ∧ q.b ≠ g' ∧ q.b < w.heap.size ∧ w'.heap[q.b]? = w.heap[q.b]? := by
    intro k u q hko hu hdk hq
    have hlt : q.b < w.heap.size := by obtain ⟨q', hq', hor⟩ := a.obj _ _ hu; rw [hq] at hq'; simp only [Option.some.injEq] at hq'; subst hq'; exact hor.lt
    have h1 : q.b ≠ p.b := fun e => hko (a.inj k o u x q p hu ho hq hp e)
    have h2 : ∀ r q', dead = some r → φ r = some q' → q'.b ≠ q.b := by
      intro r q' hr hq' e
      obtain ⟨_, xr, q2, h3, h4⟩ := hd r hr
      rw [hq'] at h4; simp only [Option.some.injEq] at h4; subst h4
      have := a.inj r k xr u q' q h3 hu hq' hq e
      subst this
      exact hdk hr
    refine ⟨h1, ?_, hlt, hk.block _ hlt ?_⟩
    · rcases hg with ⟨r, q', hr, hq', e⟩ | hg
      · rw [← e]; exact (h2 r q' hr hq').symm
      · omega
    · rintro (h3 | ⟨r, q', hr, hq', e⟩)
      · exact h1 h3
      · exact h2 r q' hr hq' e
  have hgp : g' ≠ p.b := by
    rcases hg with ⟨r, q', hr, hq', e⟩ | hg
    · obtain ⟨hro, xr, q2, h3, h4⟩ := hd r hr
      rw [hq'] at h4; simp only [Option.some.injEq] at h4; subst h4
      intro e2
      exact hro (a.inj r o xr x q' p h3 ho hq' hp (by rw [e, e2]))
    · omega
  refine ⟨⟨?_, ?_, ?_⟩, ⟨hx, ?_, hk.size, ?_, ?_, hk.os, hk.tape, hk.output⟩⟩
  · intro k u hu
    have hcases : k = o ∨ k = h.next ∨ (k ≠ o ∧ k ≠ h.next) := by
      by_cases e : k = o
      · exact .inl e
      · by_cases e2 : k = h.next
        · exact .inr (.inl e2)
        · exact .inr (.inr ⟨e, e2⟩)
    rcases hcases with e | e | ⟨e, e2⟩
    · subst e
      refine ⟨p, hx _ _ hp, ?_⟩
      rcases key k u p hu (hx _ _ hp) with ⟨_, rfl, _⟩ | ⟨e, _⟩ | ⟨e, _⟩
      · exact hz
      · exact absurd e hon
      · exact absurd rfl e
    · subst e
      refine ⟨_, Pl.add_self _ _ _, ?_⟩
      rcases key _ u _ hu (Pl.add_self _ _ _) with ⟨e, _⟩ | ⟨_, rfl, _⟩ | ⟨_, e, _⟩
      · exact absurd e.symm hon
      · exact hy
      · exact absurd rfl e
    · rw [H.get_set, if_neg e, H.get_new, hnext, if_neg e2] at hu
      obtain ⟨h1, h2⟩ := hget k u hu
      obtain ⟨q, hq, hor⟩ := a.obj k u h1
      exact ⟨q, hx _ _ hq, (hor.mono hx).world (away k u q e h1 h2 hq).2.2.2⟩
  · intro k k' u u' q q' hu hu' hq hq' hb
    rcases key k u q hu hq with ⟨e1, e2, e3⟩ | ⟨e1, e2, e3⟩ | ⟨e1, e2, e3, e4, e5⟩ <;> rcases key k' u' q' hu' hq' with ⟨f1, f2, f3⟩ | ⟨f1, f2, f3⟩ | ⟨f1, f2, f3, f4, f5⟩
    · rw [e1, f1]
    · subst e3; subst f3; exact absurd hb.symm hgp
    · subst e3; exact absurd hb.symm (away k' u' q' f1 f3 f4 f5).1
    · subst e3; subst f3; exact absurd hb hgp
    · rw [e1, f1]
    · subst e3; exact absurd hb.symm (away k' u' q' f1 f3 f4 f5).2.1
    · subst f3; exact absurd hb (away k u q e1 e3 e4 e5).1
    · subst f3; exact absurd hb (away k u q e1 e3 e4 e5).2.1
    · exact a.inj k k' u u' q q' e3 f3 e5 f5 hb
  · intro k hk'
    have hk' : h.next < k := by
      have : ((((match dead with | some r => h.del r | none => h).new y).set o z).next) = h.next + 1 := by show Nat.succ _ = _; rw [hnext]
      omega
    simp only [Pl.add]
    rw [if_neg (by omega)]
    exact a.fresh k (by omega)
  · have : ((((match dead with | some r => h.del r | none => h).new y).set o z).next) = h.next + 1 := by show Nat.succ _ = _; rw [hnext]
    omega
  · intro b hb hl
    refine hk.block b hb ?_
    rintro (e | ⟨r, q, hr, hq, e⟩)
    · exact hl ⟨o, x, p, ho, hp, e.symm⟩
    · obtain ⟨_, xr, q2, h3, h4⟩ := hd r hr
      rw [hq] at h4; simp only [Option.some.injEq] at h4; subst h4
      exact hl ⟨r, xr, q, h3, hq, e⟩
  · rintro b ⟨k, u, q, hu, hq, rfl⟩
    rcases key k u q hu hq with ⟨e1, e2, e3⟩ | ⟨e1, e2, e3⟩ | ⟨e1, e2, e3, e4, e5⟩
    · subst e3; exact .inl ⟨o, x, q, ho, hp, rfl⟩
    · subst e3
      rcases hg with ⟨r, q', hr, hq', e⟩ | hg
      · obtain ⟨_, xr, q2, h3, h4⟩ := hd r hr
        rw [hq'] at h4; simp only [Option.some.injEq] at h4; subst h4
        exact .inl ⟨r, xr, q', h3, hq', e⟩
      · exact .inr hg
    · exact .inl ⟨k, u, q, e3, e5, rfl⟩

/-- what is in a builder, in the world -/
theorem bldA_ok {tb e o : Nat} {h : H} {φ : Pl} {w : World} {l : List UInt8} {r : Option Nat} (hR : Rel h φ w) (hb : bldA tb e o h = some (l, r)) {p : Pt} (hp : φ o = some p) :
    p.base = 0 ∧ ∃ u row v, h.get o = some (.bvar tb u row) ∧ w.heap[p.b]? = some (.cells #[.pointer (match u with | true => some ⟨p.b, 0, none⟩ | false => none), v] tb (0, 0)) ∧ w.ownsRowF 0 e 1 v l.length (Lib.byteCells l) ∧
      ((r = none ∧ row = none ∧ l = [] ∧ v = .slice none 0 0) ∨ (∃ k q cur fz, r = some k ∧ h.get k = some (.bbuf l e) ∧ φ k = some q ∧ q.base = 0 ∧ v = .slice (some ⟨q.b, 0, none⟩) l.length q.sz ∧ k ≠ o ∧
        w.heap[q.b]? = some (.cells cur e fz) ∧ fz.2 ≤ l.length ∧ l.length ≤ cur.size ∧ cur.size = q.sz ∧ q.sz ≤ maxLen)) := by
  unfold bldA at hb
  split at hb
  case h_2 => simp at hb
  rename_i t u row hget
  obtain ⟨p', hp', hor⟩ := hR.obj _ _ hget
  rw [hp] at hp'; simp only [Option.some.injEq] at hp'; subst hp'
  obtain ⟨hb0, v, hcell, hrow⟩ := hor
  split at hb
  case h_2 => simp at hb
  rename_i ht
  have ht := Nat.eq_of_beq_eq_true ht
  subst ht
  split at hb
  · simp only [Option.some.injEq, Prod.mk.injEq] at hb; obtain ⟨rfl, rfl⟩ := hb
    simp only at hrow; subst hrow
    exact ⟨hb0, u, none, _, hget, hcell, World.ownsRowF_nil _ _ _ _, .inl ⟨rfl, rfl, rfl, rfl⟩⟩
  · rename_i r' n
    split at hb
    case h_2 => simp at hb
    rename_i l' e' hget'
    split at hb
    case h_2 => simp at hb
    rename_i he hn
    have he := Nat.eq_of_beq_eq_true he
    have hn := Nat.eq_of_beq_eq_true hn
    subst he; subst hn
    simp only [Option.some.injEq, Prod.mk.injEq] at hb; obtain ⟨rfl, rfl⟩ := hb
    obtain ⟨q, hq, rfl⟩ := hrow
    obtain ⟨q', hq', hor'⟩ := hR.obj _ _ hget'
    rw [hq] at hq'; simp only [Option.some.injEq] at hq'; subst hq'
    obtain ⟨hq0, cur, fz, h1, h2, h3, h4, h5, h6⟩ := hor'
    refine ⟨hb0, u, _, _, hget, hcell, ⟨by simp [Lib.byteCells], .inr ⟨q.b, q.sz, cur, fz, rfl, Nat.zero_le _, h1, by omega, by omega, h5, by omega, by rw [Nat.mul_one]; exact h6⟩⟩, .inr ⟨r', q, cur, fz, rfl, hget', hq, hq0, rfl, ?_, h1, h2, h3, h4, h5⟩⟩
    intro e; subst e; rw [hget] at hget'; simp at hget'

def WriteCall (P : Program) (f tb e : Nat) : Prop :=
  ∀ (b : Nat) (p v : Value) (bs : List Value) (s : ByteArray) (w : World), (p = .pointer none ∨ p = .pointer (some ⟨b, 0, none⟩)) →
    w.heap[b]? = some (.cells #[p, v] tb (0, 0)) → w.ownsRowF 0 e 1 v bs.length bs → bs.length + s.size ≤ 140737488355328 →
    Calls P f #[.pointer (some ⟨b, 0, none⟩), .string s] w fun x w' => x = .returned (.tuple #[.int .i64 s.size, .nilIface]) ∧ ∃ v',
      w'.heap[b]? = some (.cells #[.pointer (some ⟨b, 0, none⟩), v'] tb (0, 0)) ∧ w'.ownsRowF 0 e 1 v' (bs.length + s.size) (bs ++ Lib.strCells s) ∧
      (v'.ownBlock = v.ownBlock ∨ ∃ g, v'.ownBlock = some g ∧ w.heap.size ≤ g) ∧ Nild v v' s ∧
      Kept (fun k => k = b ∨ v.ownBlock = some k) w w'

theorem self_or (u : Bool) (b : Nat) : (Value.pointer (match u with | true => some ⟨b, 0, none⟩ | false => none)) = .pointer none ∨ (Value.pointer (match u with | true => some ⟨b, 0, none⟩ | false => none)) = .pointer (some ⟨b, 0, none⟩) := by
  cases u
  · exact .inl rfl
  · exact .inr rfl

theorem VRs.two {φ : Pl} {x y : Value} {cs : List Value} (h : VRs φ [x, y] cs) : ∃ a b, cs = [a, b] ∧ VR φ x a ∧ VR φ y b := by
  cases h with
  | cons h1 t => cases t with
    | cons h2 t => cases t; exact ⟨_, _, rfl, h1, h2⟩
theorem VRs.one {φ : Pl} {x : Value} {cs : List Value} (h : VRs φ [x] cs) : ∃ a, cs = [a] ∧ VR φ x a := by
  cases h with
  | cons h1 t => cases t; exact ⟨_, rfl, h1⟩
theorem VR.ptr0 {φ : Pl} {o : Nat} {c : Value} (h : VR φ (.pointer (some ⟨o, 0, none⟩)) c) : ∃ p, φ o = some p ∧ c = .pointer (some ⟨p.b, p.base, none⟩) := by
  cases h with
  | ptr h => exact ⟨_, h, rfl⟩
theorem VR.str' {φ : Pl} {s : ByteArray} {c : Value} (h : VR φ (.string s) c) : c = .string s := by
  cases h; rfl
theorem VR.int' {φ : Pl} {k : IntKind} {n : Int} {c : Value} (h : VR φ (.int k n) c) : c = .int k n := by
  cases h; rfl

theorem wrote_ok {φ : Pl} {w' : World} {v' : Value} {n e : Nat} {m : List UInt8} (hn : n = m.length) (hown : w'.ownsRowF 0 e 1 v' n (Lib.byteCells m)) (hv : v' ≠ .slice none 0 0) :
    ∃ g sz, v' = .slice (some ⟨g, 0, none⟩) n sz ∧ v'.ownBlock = some g ∧ ∀ ψ, OR ψ w' ⟨g, 0, sz⟩ (.bbuf m e) := by
  subst hn
  rcases hown.2 with ⟨h0, _⟩ | ⟨g, cap, cur, fz, rfl, _, h1, h2, h3, h4, h5, h6⟩
  · exact absurd h0 hv
  · exact ⟨g, cap, rfl, rfl, fun ψ => ⟨rfl, cur, fz, h1, by omega, by omega, by simpa using h5, h4, by rw [Nat.mul_one] at h6; exact h6⟩⟩

theorem hook_write {P : Program} {f k tb e : Nat} (hk : k % 16 = 7) (h1 : k / 16 / 65536 = tb) (h2 : k / 16 % 65536 = e)
    (hent : ∀ args w, (callFunc f args).run P w = .ok (.enter f args) w) (hc : WriteCall P f tb e) : HookOK P f k := by
  intro vs h v h' he φ w cs hR hv
  rw [hook_gen hk ⟨by decide, by decide⟩] at he
  unfold hGen at he
  have hk' : Nat.mod k 16 = 7 := hk
  rw [hk'] at he
  simp only [show Nat.div (Nat.div k 16) 65536 = tb from h1, show Nat.mod (Nat.div k 16) 65536 = e from h2] at he
  unfold hWrite at he
  split at he
  case h_2 => simp at he
  rename_i o s
  split at he
  case h_2 => simp at he
  rename_i l r hb
  split at he
  case h_2 => simp at he
  rename_i hle
  have hle := Nat.le_of_ble_eq_true hle
  obtain ⟨c1, c2, rfl, g1, g2⟩ := hv.two
  obtain ⟨p, hp, rfl⟩ := g1.ptr0
  have := g2.str'; subst this
  obtain ⟨hp0, u, row, vv, hget, hcell, hown, hrow⟩ := bldA_ok hR hb hp
  rw [hp0]
  have hsz : s.size = s.data.toList.length := Lib.size_eq s
  right
  refine ⟨hent _ _, ?_⟩
  refine (hc p.b _ vv (Lib.byteCells l) s w (self_or u p.b) hcell (by simpa [Lib.byteCells] using hown) (by simp [Lib.byteCells]; omega)).mono ?_
  rintro x w' ⟨rfl, v', k1, k2, k3, k4, k5⟩
  have hval : ∀ ψ, VR ψ (.tuple #[.int .i64 (.ofNat s.data.toList.length), .nilIface]) (.tuple #[.int .i64 s.size, .nilIface]) := fun ψ => by
    rw [hsz]
    exact VR.tuple (xs := [_, _]) (ys := [_, _]) (.cons (.int _ _) (.cons .nili .nil))
  have hbytes : (Lib.byteCells l).length = l.length := by simp [Lib.byteCells]
  have happ : Lib.byteCells l ++ Lib.strCells s = Lib.byteCells (l ++ s.data.toList) := by simp [Lib.byteCells, Lib.strCells]
  rw [hbytes, happ] at k2
  -- the row is another
  have wrote : (v' ≠ .slice none 0 0) → ∀ dead, (∀ r, dead = some r → r ≠ o ∧ ∃ xr q, h.get r = some xr ∧ φ r = some q) → (∀ kk, vv.ownBlock = some kk → ∃ r q, dead = some r ∧ φ r = some q ∧ q.b = kk) →
      ∃ c φ', Ending.returned (.tuple #[.int .i64 s.size, .nilIface]) = .returned c ∧ VR φ' (.tuple #[.int .i64 (.ofNat s.data.toList.length), .nilIface]) c ∧
        Rel (wroteA tb e o (l ++ s.data.toList) (match dead with | some r => h.del r | none => h)) φ' w' ∧ Step h φ w (wroteA tb e o (l ++ s.data.toList) (match dead with | some r => h.del r | none => h)) φ' w' := by
    intro hne dead hd hblk
    obtain ⟨g, sz, rfl, hgb, hor⟩ := wrote_ok (φ := φ) (by rw [hsz]; simp) k2 hne
    have hnx : (match dead with | some r => h.del r | none => h).next = h.next := by cases dead <;> rfl
    have := hR.put2 (w' := w') (z := .bvar tb true (some (h.next, (l ++ s.data.toList).length))) (y := .bbuf (l ++ s.data.toList) e) (g' := g) (sz := sz) dead hget hp hd ?_ ?_ ?_ (hor _)
    · unfold wroteA
      rw [hnx]
      exact ⟨_, _, rfl, hval _, this.1, this.2⟩
    · refine ⟨k5.size, fun i hi hr => k5.block i hi ?_, k5.os, k5.tape, k5.output⟩
      rintro (e1 | e1)
      · exact hr (.inl e1)
      · obtain ⟨r, q, e2, e3, e4⟩ := hblk i e1
        exact hr (.inr ⟨r, q, e2, e3, e4⟩)
    · rcases k3 with e1 | ⟨g2, e1, e2⟩
      · rw [hgb] at e1
        exact .inl (hblk g e1.symm)
      · rw [hgb] at e1
        simp only [Option.some.injEq] at e1; subst e1
        exact .inr e2
    · exact ⟨hp0, _, k1, _, Pl.add_self _ _ _, by rw [hsz]; simp⟩
  rcases hrow with ⟨rfl, rfl, rfl, rfl⟩ | ⟨r', q, cur, fz, rfl, hg', hq, hq0, rfl, hro, hcur, hfz, hlc, hcs, hcm⟩
  · split at he
    · rename_i hs
      simp only [Option.some.injEq, Prod.mk.injEq] at he; obtain ⟨rfl, rfl⟩ := he
      have hv' : v' = .slice none 0 0 := k4.2 ⟨rfl, by rw [hsz, hs]; rfl⟩
      subst hv'
      have hk6 : Kept (fun kk => kk = p.b) w w' := ⟨k5.size, fun i hi hr => k5.block i hi (by rintro (e1 | e1); exact hr e1; simp [Value.ownBlock] at e1), k5.os, k5.tape, k5.output⟩
      have hset : Rel (h.set o (.bvar tb true none)) φ w' ∧ Step h φ w (h.set o (.bvar tb true none)) φ w' := by
        refine ⟨⟨?_, ?_, hR.fresh⟩, ⟨Ext.refl _, Nat.le_refl _, hk6.size, ?_, ?_, hk6.os, hk6.tape, hk6.output⟩⟩
        · intro i z hi
          rw [H.get_set] at hi
          by_cases ei : i = o
          · rw [if_pos ei] at hi; simp only [Option.some.injEq] at hi; subst hi; subst ei
            exact ⟨p, hp, hp0, _, k1, rfl⟩
          · rw [if_neg ei] at hi
            obtain ⟨q, hq, hor⟩ := hR.obj i z hi
            exact ⟨q, hq, hor.world (hk6.block _ hor.lt fun hb => ei (hR.inj i o z _ q p hi hget hq hp hb))⟩
        · intro i i' z z' q q' hi hi' hq hq' hbb
          have up : ∀ j z, (h.set o (.bvar tb true none)).get j = some z → ∃ z, h.get j = some z := by
            intro j z hj
            rw [H.get_set] at hj
            by_cases ej : j = o
            · subst ej; exact ⟨_, hget⟩
            · rw [if_neg ej] at hj; exact ⟨z, hj⟩
          obtain ⟨_, e1⟩ := up _ _ hi
          obtain ⟨_, e2⟩ := up _ _ hi'
          exact hR.inj _ _ _ _ _ _ e1 e2 hq hq' hbb
        · intro b hb2 hl
          exact hk6.block b hb2 fun e1 => hl ⟨o, _, p, hget, hp, e1.symm⟩
        · rintro b ⟨i, z, q, hi, hq, rfl⟩
          rw [H.get_set] at hi
          by_cases ei : i = o
          · subst ei; exact .inl ⟨i, _, q, hget, hq, rfl⟩
          · rw [if_neg ei] at hi; exact .inl ⟨i, z, q, hi, hq, rfl⟩
      exact ⟨_, φ, rfl, hval _, hset.1, hset.2⟩
    · rename_i m hne
      simp only [Option.some.injEq, Prod.mk.injEq] at he; obtain ⟨rfl, rfl⟩ := he
      have hne' : v' ≠ .slice none 0 0 := fun e1 => by
        have := (k4.1 e1).2
        rw [hsz] at this
        exact hne (List.eq_nil_of_length_eq_zero this)
      exact wrote hne' none (by simp) (by intro kk e1; simp [Value.ownBlock] at e1)
    · rename_i e1
      cases e1
  · split at he
    · rename_i e0 e1; exact absurd e0 (by simp)
    · rename_i e0 e1; exact absurd e0 (by simp)
    · rename_i r2 m e1
      simp only [Option.some.injEq] at e1; subst e1
      simp only [Option.some.injEq, Prod.mk.injEq] at he; obtain ⟨rfl, rfl⟩ := he
      have hne' : v' ≠ .slice none 0 0 := fun e1 => by
        have := (k4.1 e1).1
        simp at this
      refine wrote hne' (some r') (fun r hr => by simp only [Option.some.injEq] at hr; subst hr; exact ⟨hro, _, q, hg', hq⟩) ?_
      intro kk e1
      simp only [Value.ownBlock, Option.some.injEq] at e1
      exact ⟨r', q, rfl, hq, e1⟩

end Go.Eng
end

section
open Go.RowKit
namespace Go.Eng

/-- an object in its block is otherwise, all else is as it was -/
theorem Rel.set2 {h : H} {φ : Pl} {w w' : World} {o : Nat} {x z : AObj} {p : Pt} (hR : Rel h φ w) (hget : h.get o = some x) (hp : φ o = some p) (hk : Kept (fun k => k = p.b) w w') (hz : OR φ w' p z) :
    Rel (h.set o z) φ w' ∧ Step h φ w (h.set o z) φ w' := by
  refine ⟨⟨?_, ?_, hR.fresh⟩, ⟨Ext.refl _, Nat.le_refl _, hk.size, ?_, ?_, hk.os, hk.tape, hk.output⟩⟩
  · intro i y hi
    rw [H.get_set] at hi
    by_cases ei : i = o
    · rw [if_pos ei] at hi; simp only [Option.some.injEq] at hi; subst hi; subst ei
      exact ⟨p, hp, hz⟩
    · rw [if_neg ei] at hi
      obtain ⟨q, hq, hor⟩ := hR.obj i y hi
      exact ⟨q, hq, hor.world (hk.block _ hor.lt fun hb => ei (hR.inj i o y _ q p hi hget hq hp hb))⟩
  · intro i i' y y' q q' hi hi' hq hq' hbb
    have up : ∀ j y, (h.set o z).get j = some y → ∃ y, h.get j = some y := by
      intro j y hj
      rw [H.get_set] at hj
      by_cases ej : j = o
      · subst ej; exact ⟨_, hget⟩
      · rw [if_neg ej] at hj; exact ⟨y, hj⟩
    obtain ⟨_, e1⟩ := up _ _ hi
    obtain ⟨_, e2⟩ := up _ _ hi'
    exact hR.inj _ _ _ _ _ _ e1 e2 hq hq' hbb
  · intro b hb2 hl
    exact hk.block b hb2 fun e1 => hl ⟨o, _, p, hget, hp, e1.symm⟩
  · rintro b ⟨i, y, q, hi, hq, rfl⟩
    rw [H.get_set] at hi
    by_cases ei : i = o
    · subst ei; exact .inl ⟨i, _, q, hget, hq, rfl⟩
    · rw [if_neg ei] at hi; exact .inl ⟨i, y, q, hi, hq, rfl⟩

/-- an object is as it was in a world in which its block alone may have turned -/
theorem Rel.same2 {h : H} {φ : Pl} {w w' : World} {o : Nat} {x : AObj} {p : Pt} (hR : Rel h φ w) (hget : h.get o = some x) (hp : φ o = some p) (hk : Kept (fun k => k = p.b) w w') (hz : OR φ w' p x) :
    Rel h φ w' ∧ Step h φ w h φ w' := by
  refine ⟨⟨?_, hR.inj, hR.fresh⟩, ⟨Ext.refl _, Nat.le_refl _, hk.size, ?_, fun _ hl => .inl hl, hk.os, hk.tape, hk.output⟩⟩
  · intro i y hi
    by_cases ei : i = o
    · subst ei
      rw [hget] at hi; simp only [Option.some.injEq] at hi; subst hi
      exact ⟨p, hp, hz⟩
    · obtain ⟨q, hq, hor⟩ := hR.obj i y hi
      exact ⟨q, hq, hor.world (hk.block _ hor.lt fun hb => ei (hR.inj i o y _ q p hi hget hq hp hb))⟩
  · intro b hb2 hl
    exact hk.block b hb2 fun e1 => hl ⟨o, _, p, hget, hp, e1.symm⟩

/-- nothing has turned, but for new blocks -/
theorem Rel.still {h : H} {φ : Pl} {w w' : World} (hR : Rel h φ w) (hk : Still w w') : Rel h φ w' ∧ Step h φ w h φ w' := by
  refine ⟨⟨?_, hR.inj, hR.fresh⟩, ⟨Ext.refl _, Nat.le_refl _, hk.size, fun b hb _ => hk.block b hb (fun h => h), fun _ hl => .inl hl, hk.os, hk.tape, hk.output⟩⟩
  intro i y hi
  obtain ⟨q, hq, hor⟩ := hR.obj i y hi
  exact ⟨q, hq, hor.world (hk.block _ hor.lt fun h => h)⟩

def GrowCall (P : Program) (f tb e : Nat) : Prop :=
  ∀ (b n : Nat) (w : World), w.heap[b]? = some (.cells #[.pointer none, .slice none 0 0] tb (0, 0)) → n ≤ 281474976710656 →
    Calls P f #[.pointer (some ⟨b, 0, none⟩), .int .i64 n] w fun x w' => x = .returned (.tuple #[]) ∧ ((1 ≤ n ∧ Grew tb e b w w') ∨ (n = 0 ∧ Used tb b w w'))

theorem hook_grow {P : Program} {f k tb e : Nat} (hk : k % 16 = 8) (h1 : k / 16 / 65536 = tb) (h2 : k / 16 % 65536 = e)
    (hent : ∀ args w, (callFunc f args).run P w = .ok (.enter f args) w) (hc : GrowCall P f tb e) : HookOK P f k := by
  intro vs h v h' he φ w cs hR hv
  rw [hook_gen hk ⟨by decide, by decide⟩] at he
  unfold hGen at he
  have hk' : Nat.mod k 16 = 8 := hk
  rw [hk'] at he
  simp only [show Nat.div (Nat.div k 16) 65536 = tb from h1, show Nat.mod (Nat.div k 16) 65536 = e from h2] at he
  unfold hGrow at he
  split at he
  case h_2 => simp at he
  rename_i o n
  split at he
  case h_2 => simp at he
  rename_i t hle hget
  have hle := Nat.le_of_ble_eq_true hle
  split at he
  case h_2 => simp at he
  rename_i ht
  have ht := Nat.eq_of_beq_eq_true ht
  subst ht
  obtain ⟨c1, c2, rfl, g1, g2⟩ := hv.two
  obtain ⟨p, hp, rfl⟩ := g1.ptr0
  have := g2.int'; subst this
  obtain ⟨p', hp', hor⟩ := hR.obj _ _ hget
  rw [hp] at hp'; simp only [Option.some.injEq] at hp'; subst hp'
  obtain ⟨hp0, vv, hcell, hrow⟩ := hor
  simp only at hrow; subst hrow
  rw [hp0]
  right
  refine ⟨hent _ _, ?_⟩
  refine (hc p.b n w hcell hle).mono ?_
  rintro x w' ⟨rfl, hw⟩
  split at he
  · simp only [Option.some.injEq, Prod.mk.injEq] at he; obtain ⟨rfl, rfl⟩ := he
    rcases hw with ⟨h0, _⟩ | ⟨_, _, h4, h5⟩
    · omega
    · have := hR.set2 (w' := w') hget hp h5 (z := .bvar t true none) ⟨hp0, _, h4, rfl⟩
      exact ⟨_, φ, rfl, .tuple .nil, this.1, this.2⟩
  · rename_i n
    simp only [Option.some.injEq, Prod.mk.injEq] at he; obtain ⟨rfl, rfl⟩ := he
    rcases hw with ⟨_, cs, h3, h4, h5, h6, h7⟩ | ⟨h0, _⟩
    · have := hR.put2 (w' := w') (z := .bvar t true (some (h.next, 0))) (y := .bbuf [] e) (g' := w.heap.size) (sz := cs.size) none hget hp (by simp) ?_ (.inr (Nat.le_refl _)) ?_ ?_
      · exact ⟨_, _, rfl, .tuple .nil, this.1, this.2⟩
      · exact ⟨h7.size, fun i hi hr => h7.block i hi (fun e1 => hr (.inl e1)), h7.os, h7.tape, h7.output⟩
      · exact ⟨hp0, _, h6, _, Pl.add_self _ _ _, rfl⟩
      · exact ⟨rfl, cs, (0, 0), h5, Nat.zero_le _, Nat.zero_le _, rfl, h3, by simp⟩
    · simp at h0

def LenCall (P : Program) (f tb e : Nat) : Prop :=
  ∀ (b : Nat) (p v : Value) (bs : List Value) (w : World), (p = .pointer none ∨ p = .pointer (some ⟨b, 0, none⟩)) →
    w.heap[b]? = some (.cells #[p, v] tb (0, 0)) → w.ownsRowF 0 e 1 v bs.length bs →
    Calls P f #[.pointer (some ⟨b, 0, none⟩)] w fun x w' => x = .returned (.int .i64 bs.length) ∧ w' = w

theorem hook_len {P : Program} {f k tb e : Nat} (hk : k % 16 = 9) (h1 : k / 16 / 65536 = tb) (h2 : k / 16 % 65536 = e)
    (hent : ∀ args w, (callFunc f args).run P w = .ok (.enter f args) w) (hc : LenCall P f tb e) : HookOK P f k := by
  intro vs h v h' he φ w cs hR hv
  rw [hook_gen hk ⟨by decide, by decide⟩] at he
  unfold hGen at he
  have hk' : Nat.mod k 16 = 9 := hk
  rw [hk'] at he
  simp only [show Nat.div (Nat.div k 16) 65536 = tb from h1, show Nat.mod (Nat.div k 16) 65536 = e from h2] at he
  unfold hLen at he
  split at he
  case h_2 => simp at he
  rename_i o
  split at he
  case h_2 => simp at he
  rename_i l r hb
  simp only [Option.some.injEq, Prod.mk.injEq] at he; obtain ⟨rfl, rfl⟩ := he
  obtain ⟨c1, rfl, g1⟩ := hv.one
  obtain ⟨p, hp, rfl⟩ := g1.ptr0
  obtain ⟨hp0, u, row, vv, hget, hcell, hown, hrow⟩ := bldA_ok hR hb hp
  rw [hp0]
  right
  refine ⟨hent _ _, ?_⟩
  refine (hc p.b _ vv (Lib.byteCells l) w (self_or u p.b) hcell (by simpa [Lib.byteCells] using hown)).mono ?_
  rintro x w' ⟨rfl, rfl⟩
  refine ⟨_, φ, rfl, ?_, hR, Step.refl _ _ _⟩
  rw [Lib.byteCells_length]
  exact .int _ _

def StrCall (P : Program) (f tb e : Nat) : Prop :=
  ∀ (b : Nat) (p v : Value) (l : List UInt8) (w : World), w.heap[b]? = some (.cells #[p, v] tb (0, 0)) → w.ownsRowF 0 e 1 v l.length (Lib.byteCells l) →
    Calls P f #[.pointer (some ⟨b, 0, none⟩)] w fun x w' => x = .returned (.string ⟨l.toArray⟩) ∧
      (Still w w' ∨ ∃ g cap cur fz, v = .slice (some ⟨g, 0, none⟩) l.length cap ∧ w.heap[g]? = some (.cells cur e fz) ∧ Froze e g l.length cur w w')

theorem hook_str {P : Program} {f k tb e : Nat} (hk : k % 16 = 11) (h1 : k / 16 / 65536 = tb) (h2 : k / 16 % 65536 = e)
    (hent : ∀ args w, (callFunc f args).run P w = .ok (.enter f args) w) (hc : StrCall P f tb e) : HookOK P f k := by
  intro vs h v h' he φ w cs hR hv
  rw [hook_gen hk ⟨by decide, by decide⟩] at he
  unfold hGen at he
  have hk' : Nat.mod k 16 = 11 := hk
  rw [hk'] at he
  simp only [show Nat.div (Nat.div k 16) 65536 = tb from h1, show Nat.mod (Nat.div k 16) 65536 = e from h2] at he
  unfold hStr at he
  split at he
  case h_2 => simp at he
  rename_i o
  split at he
  case h_2 => simp at he
  rename_i l r hb
  simp only [Option.some.injEq, Prod.mk.injEq] at he; obtain ⟨rfl, rfl⟩ := he
  obtain ⟨c1, rfl, g1⟩ := hv.one
  obtain ⟨p, hp, rfl⟩ := g1.ptr0
  obtain ⟨hp0, u, row, vv, hget, hcell, hown, hrow⟩ := bldA_ok hR hb hp
  rw [hp0]
  right
  refine ⟨hent _ _, ?_⟩
  refine (hc p.b _ vv l w hcell hown).mono ?_
  rintro x w' ⟨rfl, hw⟩
  rcases hw with hw | ⟨g, cap, cur, fz, rfl, hg, hf⟩
  · have := hR.still hw
    exact ⟨_, φ, rfl, .str _, this.1, this.2⟩
  · rcases hrow with ⟨_, _, _, e1⟩ | ⟨r', q, cur', fz', rfl, hg', hq, hq0, e1, hro, hcur, hfz, hlc, hcs, hcm⟩
    · simp at e1
    · simp only [Value.slice.injEq, Option.some.injEq, Addr.mk.injEq, true_and, and_true] at e1
      obtain ⟨rfl, rfl⟩ := e1
      rw [hg] at hcur
      simp only [Option.some.injEq, Obj.cells.injEq, true_and] at hcur
      obtain ⟨rfl, rfl⟩ := hcur
      obtain ⟨fz2, k1, k2, k3⟩ := hf
      obtain ⟨q', hq', hor⟩ := hR.obj _ _ hg'
      rw [hq] at hq'; simp only [Option.some.injEq] at hq'; subst hq'
      obtain ⟨_, cur2, fz3, j1, j2, j3, j4, j5, j6⟩ := hor
      rw [hg] at j1
      simp only [Option.some.injEq, Obj.cells.injEq, true_and] at j1
      obtain ⟨rfl, rfl⟩ := j1
      have := hR.same2 (w' := w') hg' hq k3 ⟨hq0, _, fz2, k1, k2, j3, j4, j5, j6⟩
      exact ⟨_, φ, rfl, .str _, this.1, this.2⟩

/-! ### Slices of strings -/
/-- a new slice of strings -/
def StrsOut (t : Nat) (l : List (List UInt8)) (w : World) (x : Ending) (w' : World) : Prop :=
  ∃ A, x = .returned (.slice (some ⟨A, 0, none⟩) l.length l.length) ∧ w.heap.size ≤ A ∧
    w'.ownsRow w.heap.size t 1 (.slice (some ⟨A, 0, none⟩) l.length l.length) l.length (l.map fun x => .string (bsOf x)) ∧ Below w.heap.size w w'

theorem strs_out {t : Nat} {l : List (List UInt8)} {h h' : H} {v : Value} {φ : Pl} {w w' : World} {x : Ending} (hR : Rel h φ w) (he : strsA t l h = some (v, h')) (hs : StrsOut t l w x w') :
    ∃ c φ', x = .returned c ∧ VR φ' v c ∧ Rel h' φ' w' ∧ Step h φ w h' φ' w' := by
  simp only [strsA, Option.some.injEq, Prod.mk.injEq] at he; obtain ⟨rfl, rfl⟩ := he
  obtain ⟨A, rfl, hA, hown, hbel⟩ := hs
  have hR' := hR.below hbel
  rcases hown.2 with ⟨e1, _⟩ | ⟨g, cap, cur, e1, hg1, hg2, hg3, hg4, hg5, hg6⟩
  · simp at e1
  simp only [Value.slice.injEq, Option.some.injEq, Addr.mk.injEq, true_and, and_true] at e1
  obtain ⟨rfl, rfl⟩ := e1
  have hn := hR.fresh h.next (Nat.le_refl _)
  have hnl : ¬ Live h φ A := by
    rintro ⟨o1, x1, p1, e1, e2, e3⟩
    obtain ⟨p2, e4, e5⟩ := hR.obj _ _ e1
    rw [e2] at e4; simp only [Option.some.injEq] at e4; subst e4
    have := e5.lt
    omega
  have hnl' : ¬ Live h φ A := hnl
  have ho : OR (φ.add h.next ⟨A, 0, cur.size⟩) w' ⟨A, 0, cur.size⟩ (.cells (l.map fun x => .string (bsOf x)) t) := by
    refine ⟨cur, hg2, rfl, fun i v hv => ?_⟩
    have h1 : (l.map fun x => Value.string (bsOf x))[i]? = some v := hv
    rw [← hg6, List.getElem?_take] at h1
    split at h1
    · refine ⟨v, by simpa using h1, ?_⟩
      rw [List.getElem?_map] at hv
      obtain ⟨n, _, rfl⟩ := Option.map_eq_some_iff.1 hv
      exact .str _
    · simp at h1
  have hadd := hR'.adopt (x := .cells (l.map fun x => .string (bsOf x)) t) (p := ⟨A, 0, cur.size⟩) hnl' ho
  refine ⟨_, φ.add h.next ⟨A, 0, cur.size⟩, rfl, ?_, hadd, ?_⟩
  · exact VR.slc (p := ⟨A, 0, cur.size⟩) (x := 0) (Pl.add_self _ _ _) (Nat.le_refl _) (Nat.le_refl _) (by simp; omega) (fun _ => rfl)
  · refine ⟨Pl.add_ext _ hn, Nat.le_succ _, hbel.size, fun j hj _ => hbel.block j hj, ?_, hbel.os, hbel.tape, hbel.output⟩
    rintro j ⟨o1, x1, p1, e1, e2, e3⟩
    rw [H.get_new] at e1
    by_cases e : o1 = h.next
    · subst e
      rw [Pl.add_self] at e2; simp only [Option.some.injEq] at e2; subst e2
      right; rw [← e3]; exact hA
    · rw [if_neg e] at e1
      simp only [Pl.add, if_neg e] at e2
      exact .inl ⟨o1, x1, p1, e1, e2, e3⟩

def SplitCall (P : Program) (f t : Nat) : Prop :=
  ∀ (s : ByteArray) (c : UInt8) (w : World), s.size < 4294967281 → Calls P f #[.string s, .string ⟨#[c]⟩] w fun x w' => StrsOut t (piecesL c s.data.toList) w x w'

theorem hook_split {P : Program} {f k t : Nat} (hk : k % 16 = 12) (ht : k / 16 = t)
    (hent : ∀ args w, (callFunc f args).run P w = .ok (.enter f args) w) (hc : SplitCall P f t) : HookOK P f k := by
  intro vs h v h' he φ w cs hR hv
  rw [hook_gen hk ⟨by decide, by decide⟩] at he
  unfold hGen at he
  have hk' : Nat.mod k 16 = 12 := hk
  rw [hk'] at he
  simp only [show Nat.div k 16 = t from ht] at he
  unfold hSplit at he
  split at he
  case h_2 => simp at he
  rename_i s sep
  split at he
  case h_2 => simp at he
  rename_i c hsep hlt
  obtain ⟨c1, c2, rfl, g1, g2⟩ := hv.two
  have := g1.str'; subst this
  have := g2.str'; subst this
  have hsp : sep = ⟨#[c]⟩ := by
    obtain ⟨⟨l⟩⟩ := sep
    simp only at hsep
    subst hsep; rfl
  subst hsp
  have hs : s.size < 4294967281 := by
    rw [Lib.size_eq]
    exact Nat.le_of_ble_eq_true hlt
  right
  refine ⟨hent _ _, ?_⟩
  refine (hc s c w hs).mono ?_
  intro x w' hx
  exact strs_out hR he hx

def FieldsCall (P : Program) (f g t : Nat) : Prop :=
  ∀ (s : ByteArray) (w : World), s.size ≤ 4294967296 → Calls P f #[.string s, .func (.func g) #[] #[]] w fun x w' => StrsOut t (wordsL s.data.toList) w x w'

theorem hook_fields {P : Program} {f k g t : Nat} (hk : k % 16 = 13) (hg : k / 16 / 65536 = g) (ht : k / 16 % 65536 = t)
    (hent : ∀ args w, (callFunc f args).run P w = .ok (.enter f args) w) (hc : FieldsCall P f g t) : HookOK P f k := by
  intro vs h v h' he φ w cs hR hv
  rw [hook_gen hk ⟨by decide, by decide⟩] at he
  unfold hGen at he
  have hk' : Nat.mod k 16 = 13 := hk
  rw [hk'] at he
  simp only [show Nat.div (Nat.div k 16) 65536 = g from hg, show Nat.mod (Nat.div k 16) 65536 = t from ht] at he
  unfold hFields at he
  split at he
  case h_2 => simp at he
  rename_i s f' fi ca
  split at he
  case h_2 => simp at he
  rename_i hfg hfi hca hle
  have hfg := Nat.eq_of_beq_eq_true hfg
  subst hfg
  obtain ⟨c1, c2, rfl, g1, g2⟩ := hv.two
  have := g1.str'; subst this
  have hc2 : c2 = .func (.func f') #[] #[] := by
    cases g2 with
    | func _ h2 h3 =>
      simp only at hfi hca
      subst hfi; subst hca
      cases h2; cases h3; rfl
  subst hc2
  have hs : s.size ≤ 4294967296 := by
    rw [Lib.size_eq]
    exact Nat.le_of_ble_eq_true hle
  right
  refine ⟨hent _ _, ?_⟩
  refine (hc s w hs).mono ?_
  intro x w' hx
  exact strs_out hR he hx

/-! ### Numbers -/
def ParseCall (P : Program) (f t : Nat) : Prop :=
  ∀ (s : ByteArray) (w : World), s.size ≠ 0 → s.size ≤ 4294967296 → Calls P f #[.string s, .int .i64 10, .int .i64 64] w fun x w' => x = .returned (Lib.uintTuple t (Lib.parseUint10 0 s.data.toList)) ∧ Below w.heap.size w w'

theorem VR.uintTuple (φ : Pl) (t : Nat) (n : Lib.NumEnd Nat) : VR φ (Lib.uintTuple t n) (Lib.uintTuple t n) := by
  rcases n with n | _ | _
  · exact VR.tuple (xs := [_, _]) (ys := [_, _]) (.cons (.int _ _) (.cons .nili .nil))
  · exact VR.tuple (xs := [_, _]) (ys := [_, _]) (.cons (.int _ _) (.cons (.iface _ (.int _ _)) .nil))
  · exact VR.tuple (xs := [_, _]) (ys := [_, _]) (.cons (.int _ _) (.cons (.iface _ (.int _ _)) .nil))

theorem hook_parse {P : Program} {f k t : Nat} (hk : k % 16 = 14) (ht : k / 16 = t)
    (hent : ∀ args w, (callFunc f args).run P w = .ok (.enter f args) w) (hc : ParseCall P f t) : HookOK P f k := by
  intro vs h v h' he φ w cs hR hv
  rw [hook_gen hk ⟨by decide, by decide⟩] at he
  unfold hGen at he
  have hk' : Nat.mod k 16 = 14 := hk
  rw [hk'] at he
  simp only [show Nat.div k 16 = t from ht] at he
  unfold hParse at he
  split at he
  case h_2 => simp at he
  rename_i s b z
  split at he
  case h_2 => simp at he
  rename_i y l hsl hb hz hle
  have hb := of_decide_eq_true hb
  have hz := of_decide_eq_true hz
  subst hb; subst hz
  simp only [Option.some.injEq, Prod.mk.injEq] at he; obtain ⟨rfl, rfl⟩ := he
  obtain ⟨c1, c2, c3, rfl, g1, g2, g3⟩ := hv.three
  have := g1.str'; subst this
  have := g2.int'; subst this
  have := g3.int'; subst this
  have hs : s.size ≤ 4294967296 := by
    rw [Lib.size_eq]
    exact Nat.le_of_ble_eq_true hle
  right
  refine ⟨hent _ _, ?_⟩
  refine (hc s w (by rw [Lib.size_eq, hsl]; simp) hs).mono ?_
  rintro x w' ⟨rfl, hbel⟩
  rw [hsl]
  exact ⟨_, φ, rfl, VR.uintTuple _ _ _, hR.below hbel, Step.of_below hbel⟩

theorem tabEq_ok : ∀ {vs : List Value} {zs : List Int}, tabEq vs zs = true → vs = zs.map fun z => .int .u64 z
  | [], [], _ => rfl
  | [], _ :: _, h => by simp [tabEq] at h
  | v :: vs, [], h => by unfold tabEq at h; split at h <;> simp_all
  | v :: vs, z :: zs, h => by
    unfold tabEq at h
    split at h
    · simp_all
    · rename_i e1 e2
      split at h
      · rename_i hd
        have hd := of_decide_eq_true hd
        simp only [List.cons.injEq] at e1 e2
        obtain ⟨rfl, rfl⟩ := e1
        obtain ⟨rfl, rfl⟩ := e2
        subst hd
        simp [tabEq_ok h]
      · simp at h
    · simp at h

/-- the table of ten's powers lies at block b -/
def TabAt (b : Nat) (w : World) : Prop := ∃ cur t fz, w.heap[b]? = some (.cells cur t fz) ∧ cur.toList = Lib.pow10Tab.map fun z => .int .u64 z

theorem tabA_ok {o b : Nat} {h : H} {φ : Pl} {w : World} (hR : Rel h φ w) (ht : tabA o b h = true) : TabAt b w := by
  unfold tabA at ht
  split at ht
  · rename_i b' t fz vs hg
    split at ht
    · rename_i h1 h2
      have h1 := Nat.eq_of_beq_eq_true h1
      subst h1
      obtain ⟨p, hp, ⟨hb, _⟩, hc⟩ := hR.obj _ _ hg
      rw [hb] at hc
      exact ⟨⟨vs⟩, t, fz, hc, tabEq_ok h2⟩
    · simp at ht
  · simp at ht

def DecCall (P : Program) (f b : Nat) : Prop :=
  ∀ (n : Nat) (w : World), n ≤ 18446744073709551615 → (100 ≤ n → TabAt b w) → Calls P f #[.int .u64 n, .int .i64 10] w fun x w' => x = .returned (.string (bsOf (Lib.decDigits n))) ∧ Below w.heap.size w w'

theorem hook_dec {P : Program} {f k o b : Nat} (hk : k % 16 = 4) (ho : k / 16 / 65536 = o) (hb : k / 16 % 65536 = b)
    (hent : ∀ args w, (callFunc f args).run P w = .ok (.enter f args) w) (hc : DecCall P f b) : HookOK P f k := by
  intro vs h v h' he φ w cs hR hv
  rw [hook_gen hk ⟨by decide, by decide⟩] at he
  unfold hGen at he
  have hk' : Nat.mod k 16 = 4 := hk
  rw [hk'] at he
  simp only [show Nat.div (Nat.div k 16) 65536 = o from ho, show Nat.mod (Nat.div k 16) 65536 = b from hb] at he
  unfold hDec at he
  split at he
  case h_2 => simp at he
  rename_i n z
  have main : z = 10 → Nat.ble n 18446744073709551615 = true → (100 ≤ n → TabAt b w) → (some (.string (bsOf (Lib.decDigits n)), h) = some (v, h')) → (∃ (cv : Value) (φ' : Pl) (w' : World), (callFunc f cs.toArray).run P w = .ok (.value cv) w' ∧ VR φ' v cv ∧ Rel h' φ' w' ∧ Step h φ w h' φ' w') ∨
      ((callFunc f cs.toArray).run P w = .ok (.enter f cs.toArray) w ∧ Calls P f cs.toArray w fun e w' => ∃ c φ', e = .returned c ∧ VR φ' v c ∧ Rel h' φ' w' ∧ Step h φ w h' φ' w') := by
    clear he
    intro hz hn ht he
    have hn := Nat.le_of_ble_eq_true hn
    subst hz
    simp only [Option.some.injEq, Prod.mk.injEq] at he; obtain ⟨rfl, rfl⟩ := he
    obtain ⟨c1, c2, rfl, g1, g2⟩ := hv.two
    have := g1.int'; subst this
    have := g2.int'; subst this
    right
    refine ⟨hent _ _, ?_⟩
    refine (hc n w hn ht).mono ?_
    rintro x w' ⟨rfl, hbel⟩
    exact ⟨_, φ, rfl, .str _, hR.below hbel, Step.of_below hbel⟩
  split at he
  · rename_i h1 h2 h3
    exact main (of_decide_eq_true h1) h2 (fun h => by have : n < 100 := Nat.le_of_ble_eq_true h3; omega) he
  · rename_i h1 h2 h3 h4
    exact main (of_decide_eq_true h1) h2 (fun _ => tabA_ok hR h4) he
  · simp at he

def ItoaCall (P : Program) (f b : Nat) : Prop :=
  ∀ (n : Int) (w : World), -9223372036854775808 ≤ n → n ≤ 9223372036854775807 → TabAt b w → Calls P f #[.int .i64 n] w fun x w' => x = .returned (.string (bsOf (Lib.itoa n))) ∧ Below w.heap.size w w'

theorem hook_itoa {P : Program} {f k o b : Nat} (hk : k % 16 = 15) (ho : k / 16 / 65536 = o) (hb : k / 16 % 65536 = b)
    (hent : ∀ args w, (callFunc f args).run P w = .ok (.enter f args) w) (hc : ItoaCall P f b) : HookOK P f k := by
  intro vs h v h' he φ w cs hR hv
  rw [hook_gen hk ⟨by decide, by decide⟩] at he
  unfold hGen at he
  have hk' : Nat.mod k 16 = 15 := hk
  rw [hk'] at he
  simp only [show Nat.div (Nat.div k 16) 65536 = o from ho, show Nat.mod (Nat.div k 16) 65536 = b from hb] at he
  unfold hItoa at he
  split at he
  case h_2 => simp at he
  rename_i n
  split at he
  case h_2 => simp at he
  rename_i h1 h2
  have h1 := of_decide_eq_true h1
  simp only [Option.some.injEq, Prod.mk.injEq] at he; obtain ⟨rfl, rfl⟩ := he
  obtain ⟨c1, rfl, g1⟩ := hv.one
  have := g1.int'; subst this
  right
  refine ⟨hent _ _, ?_⟩
  refine (hc n w h1.1 h1.2 (tabA_ok hR h2)).mono ?_
  rintro x w' ⟨rfl, hbel⟩
  exact ⟨_, φ, rfl, .str _, hR.below hbel, Step.of_below hbel⟩

end Go.Eng
end

section
set_option linter.unusedVariables false
namespace Go.Eng
open Go.Shelf Go.RowKit Go.Proofs
variable {P : Program} {ρ : Ren}

theorem index_byte (c : UInt8) : ∀ l : List UInt8, Lib.index l [c] = Lib.indexByte l c
  | [] => rfl
  | x :: r => by
    rw [Lib.index, prefOne, index_byte c r, Lib.indexByte]
    by_cases h : c = x
    · subst h; simp
    · have h1 : (c == x) = false := by simpa using h
      have h2 : (x == c) = false := by simpa using fun e => h e.symm
      rw [h1, h2]

theorem write_call (L : Lays.n166 P ρ) (X : Builder.Extra P ρ) : WriteCall P (ρ.f 166) (ρ.t 72) (ρ.t 5) :=
  fun b p v bs s w hp hbk hown hlen => bld_write L X b p v bs s w hp hbk hown hlen

theorem grow_call (L : Lays.n165 P ρ) (X : Builder.Extra P ρ) : GrowCall P (ρ.f 165) (ρ.t 72) (ρ.t 5) :=
  fun b n w hbk hn => bld_Grow L X b n w hbk hn

theorem len_call (L : Lays.n170 P ρ) (X : Builder.Extra P ρ) : LenCall P (ρ.f 170) (ρ.t 72) (ρ.t 5) := by
  intro b p v bs w hp hbk hown
  have hat : Lib.BuilderAtF (ρ.t 72) (ρ.t 5) 0 b p bs w := ⟨Nat.zero_le _, v, hbk, hown, Lib.ownBlock_neF hown hbk X.neB5⟩
  refine Any.Builder_Len_f L 0 b bs w ?_
  rcases hp with rfl | rfl
  · exact .inl hat
  · exact .inr hat

theorem str_call (L : Lays.n169 P ρ) (X : Builder.Extra P ρ) : StrCall P (ρ.f 169) (ρ.t 72) (ρ.t 5) := by
  intro b p v l w hbk hown
  rcases hown.2 with ⟨rfl, h0⟩ | ⟨g, cap, cur, fz, rfl, _, hg, hfz, hnc, hcm, hcs, htake⟩
  · have : l = [] := List.eq_nil_of_length_eq_zero h0
    subst this
    exact (bld_str_nil L X b p w hbk).mono fun _ _ ⟨h1, h2⟩ => ⟨h1, .inl h2⟩
  · by_cases hl : l = []
    · subst hl
      by_cases hc : cap = 0
      · subst hc
        exact (bld_str_noroom L X b g p cur w hbk fz hg).mono fun _ _ ⟨h1, h2⟩ => ⟨h1, .inl h2⟩
      · exact (bld_str_room L X b g cap p w hc hbk).mono fun _ _ ⟨h1, h2⟩ => ⟨h1, .inl h2⟩
    · exact (bld_str_row L X b g cap p cur fz l w hl hbk hown hg (by omega) hnc hcm (by omega)).mono fun _ _ ⟨h1, h2⟩ => ⟨h1, .inr ⟨g, cap, cur, fz, rfl, hg, h2⟩⟩

theorem splitB_len (s : ByteArray) (c : UInt8) : (piecesL c s.data.toList).length = Lib.countB s ⟨#[c]⟩ + 1 := by
  have := Lib.splitB_all ⟨#[c]⟩ (Nat.le_refl 1) 0 _ s rfl
  rw [split_pieces, List.length_map] at this
  exact this

set_option maxHeartbeats 1000000 in
theorem split_call (L : Lays.n146 P ρ) (hi9 : (P.info? (ρ.t 9)).map (fun i => (i.zero, i.size, i.bytes)) = some (some (.string ByteArray.empty), 1, 16)) : SplitCall P (ρ.f 146) (ρ.t 9) := by
  intro s c w hs
  have h1 : 1 ≤ (ByteArray.mk #[c]).size := Nat.le_refl 1
  have hle := Lib.countB_le ⟨#[c]⟩ h1 s.size s (Nat.le_refl _)
  have hlen := Lib.splitB_all ⟨#[c]⟩ h1 0 _ s rfl
  have hI : ∀ (x : ByteArray) (a : Array Value), x.size ≤ s.size → Calls P (ρ.f 143) #[.string x, .string ⟨#[c]⟩] (w.alloc (.cells a (ρ.t 9))) fun e w' => e = .returned (.int .i64 (Lib.indexB x ⟨#[c]⟩)) ∧ w' = w.alloc (.cells a (ρ.t 9)) := fun x a _ => by
    refine (Any.strings_Index_one { L with } x c _).mono ?_
    rintro e w' ⟨rfl, rfl⟩
    refine ⟨?_, rfl⟩
    rw [← index_byte]
    first | done | rfl
  have hC : Calls P (ρ.f 138) #[.string s, .string ⟨#[c]⟩] w fun e w' => e = .returned (.int .i64 (Lib.countB s ⟨#[c]⟩)) ∧ w' = w := by
    refine (Any.strings_Count_one { L with } s c w).mono fun e w' ⟨he, hw⟩ => ⟨?_, hw⟩
    rw [he]
    show _ = Ending.returned (Value.int .i64 ((Lib.count s.data.toList [c] : Nat) : Int))
    rw [Lib.count_one]
    rfl
  have cc := Any.strings_genSplit_core { L with } hi9 s ⟨#[c]⟩ 0 (-1) (Lib.countB s ⟨#[c]⟩ + 1) w hs h1 (Nat.zero_le _) hI hC (by decide) (by decide) (by rw [if_pos (by decide)]; omega)
  rw [Nat.add_sub_cancel, hlen] at cc
  have e2 : Lib.cellsOf (Lib.splitB ⟨#[c]⟩ 0 (Lib.countB s ⟨#[c]⟩) s) (Lib.countB s ⟨#[c]⟩ + 1) = ((Lib.splitB ⟨#[c]⟩ 0 (Lib.countB s ⟨#[c]⟩) s).map Value.string).toArray := by rw [← hlen]; exact Lib.cellsOf_full _
  rw [e2] at cc
  have key : Calls P (ρ.f 146) #[.string s, .string ⟨#[c]⟩] w fun e w' =>
      e = .returned (.slice (some ⟨w.heap.size, 0, none⟩) (Lib.countB s ⟨#[c]⟩ + 1) (Lib.countB s ⟨#[c]⟩ + 1)) ∧ w' = w.alloc (.cells ((Lib.splitB ⟨#[c]⟩ 0 (Lib.countB s ⟨#[c]⟩) s).map Value.string).toArray (ρ.t 9)) := by
    clear hI hC
    have t3 := L.t3; have t9 := L.t9; have t31 := L.t31
    have a3 := L.a3; have a9 := L.a9; have a31 := L.a31
    have z3 := L.z3; have v3 := L.v3; have z9 := L.z9; have v9 := L.v9; have z31 := L.z31; have v31 := L.v31
    have e221 : ∀ args w, (callFunc (ρ.f 221) args).run P w = .ok (.enter (ρ.f 221) args) w := enters_of L.f221 (by kernel_rfl) rfl
    go_enter L.f146, Body.n146_ntmps ρ
    go_wp2_with (go_at_fn (ρ.f 221); refine cc.mono ?_; rintro e w' ⟨rfl, hw⟩; rw [hw])
    go_ret
    exact ⟨rfl, rfl⟩
  refine key.mono ?_
  rintro e w' ⟨rfl, rfl⟩
  have hl := splitB_len s c
  have hcl : (Lib.countB s ⟨#[c]⟩ : Nat) + 1 ≤ maxLen := by unfold maxLen; omega
  refine ⟨w.heap.size, by rw [hl], Nat.le_refl _, ⟨by simp, .inr ⟨w.heap.size, _, ((Lib.splitB ⟨#[c]⟩ 0 (Lib.countB s ⟨#[c]⟩) s).map Value.string).toArray, rfl, Nat.le_refl _, heap_alloc_new w _, Nat.le_refl _, by rw [hl]; exact hcl, by simp [hl, hlen], ?_⟩⟩, (Below.refl _ w).alloc (Nat.le_refl _) _⟩
  rw [split_pieces]
  simp only [List.map_map, Nat.mul_one, Function.comp_def]
  exact List.take_of_length_le (by simp)

theorem fields_call (L : Lays.n229 P ρ) (g : Nat) (eg : ∀ args w, (callFunc g args).run P w = .ok (.enter g args) w) (hp : ∀ w, PredAt P g #[] encR isSp w)
    (hi154 : (P.info? (ρ.t 154)).map (fun i => (i.zero, i.size, i.bytes)) = some (some (.agg #[.int .i64 0, .int .i64 0]), 2, 16))
    (hi9 : (P.info? (ρ.t 9)).map (fun i => (i.zero, i.size, i.bytes)) = some (some (.string ⟨#[]⟩), 1, 16)) : FieldsCall P (ρ.f 229) g (ρ.t 9) := by
  intro s w hs
  refine (Any.strings_FieldsFunc L g #[] eg isSp s w hs (hp w) hi154 hi9).mono ?_
  rintro e w' ⟨A, rfl, hA, hown, hbel⟩
  rw [fields_words] at hown ⊢
  simp only [List.length_map, List.map_map] at hown ⊢
  exact ⟨A, rfl, hA, hown, hbel⟩

theorem parse_call (L : Lays.n287 P ρ) : ParseCall P (ρ.f 287) (ρ.t 167) := by
  intro s w h0 hs
  refine (Any.internal_strconv_ParseUint_10_b64 L s h0 (by omega) w).mono ?_
  rintro e w' ⟨rfl, rfl⟩
  refine ⟨rfl, ⟨rfl, rfl, rfl, by rw [Lib.bytesWorld_size]; omega, fun k hk => Lib.bytesWorld_at_old w _ s k hk⟩⟩

end Go.Eng
end
