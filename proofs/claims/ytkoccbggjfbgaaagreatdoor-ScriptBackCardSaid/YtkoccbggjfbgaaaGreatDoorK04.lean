/-
  The abstract machine, part F: append. The abstract machine, part G: maps; all operations with an effect. The abstract machine, part H: temporaries, one operation, a region in the text's order. The abstract machine, part I: regions that draw their order. The abstract machine, part J: regions that draw their order: what holds in the middle of one. The abstract machine, part K: regions that draw their order: each step in the middle of one. The abstract machine, part L: an operation that ran ahead of its turn comes to its turn. The abstract machine, part M: an operation runs ahead of its turn. The abstract machine, part N: regions that draw their order. The abstract machine, part O: regions that draw their order: the whole. The abstract machine, part P: it is sound. The machine in small pieces (EngX) says nothing that the abstract machine ('run') does not say.
-/
import Derived.Test.YtkoccbggjfbgaaaGreatDoorK03
import Derived.MapKept
import Derived.Scope
set_option linter.all false

section
namespace Go.Eng
variable {P : Program} {E : Env}

/-- one object gone, a new one in its block -/
theorem Rel.alias {h : H} {φ : Pl} {w w' : World} (a : Rel h φ w) {o : Nat} {x z : AObj} {p q : Pt} (ho : h.get o = some x) (hp : φ o = some p) (hq : q.b = p.b)
    (hz : OR (φ.add h.next q) w' q z) (hs : w'.heap.size = w.heap.size) (hf : ∀ b, b ≠ p.b → w'.heap[b]? = w.heap[b]?) (hos : w'.os = w.os) (ht : w'.tape = w.tape) (hout : w'.output = w.output) :
    Rel ((h.del o).new z) (φ.add h.next q) w' ∧ Step h φ w ((h.del o).new z) (φ.add h.next q) w' := by
  have hn : φ h.next = none := a.fresh _ (Nat.le_refl _)
  have hx := Pl.add_ext (φ := φ) q hn
  have hon : o ≠ h.next := by intro e; subst e; rw [hn] at hp; simp at hp
  have key : ∀ k y r, ((h.del o).new z).get k = some y → (φ.add h.next q) k = some r →
      (k = h.next ∧ r = q ∧ y = z) ∨ (k ≠ h.next ∧ k ≠ o ∧ h.get k = some y ∧ φ k = some r ∧ r.b ≠ p.b) := by
    intro k y r hk hr
    rw [H.get_new] at hk
    by_cases e : k = h.next
    · subst e
      rw [Pl.add_self] at hr; simp at hr
      have : (h.del o).next = h.next := rfl
      rw [this, if_pos rfl] at hk
      simp at hk
      exact .inl ⟨rfl, hr.symm, hk.symm⟩
    · have : (h.del o).next = h.next := rfl
      rw [this, if_neg e, H.get_del] at hk
      simp only [Pl.add, if_neg e] at hr
      by_cases e2 : k = o
      · rw [if_pos e2] at hk; simp at hk
      · rw [if_neg e2] at hk
        exact .inr ⟨e, e2, hk, hr, fun hb => e2 (a.inj k o y x r p hk ho hr hp hb)⟩
  refine ⟨⟨?_, ?_, ?_⟩, ⟨hx, Nat.le_succ _, by omega, ?_, ?_, hos, ht, hout⟩⟩
  · intro k y hk
    by_cases e : k = h.next
    · subst e
      obtain ⟨_, _, rfl⟩ | ⟨h1, _⟩ := key _ _ _ hk (Pl.add_self _ _ _)
      · exact ⟨q, Pl.add_self _ _ _, hz⟩
      · exact absurd rfl h1
    · rw [H.get_new] at hk
      have : (h.del o).next = h.next := rfl
      rw [this, if_neg e, H.get_del] at hk
      by_cases e2 : k = o
      · rw [if_pos e2] at hk; simp at hk
      · rw [if_neg e2] at hk
        obtain ⟨r, hr, hor⟩ := a.obj k y hk
        exact ⟨r, hx _ _ hr, (hor.mono hx).world (hf _ fun hb => e2 (a.inj k o y x r p hk ho hr hp hb))⟩
  · intro k k' y y' r r' hk hk' hr hr' hb
    rcases key k y r hk hr with ⟨e, e2, _⟩ | ⟨e, _, e2, e3, e4⟩ <;> rcases key k' y' r' hk' hr' with ⟨f, f2, _⟩ | ⟨f, _, f2, f3, f4⟩
    · rw [e, f]
    · subst e2; exact absurd (hb ▸ hq) f4
    · subst f2; exact absurd (hb.trans hq) e4
    · exact a.inj k k' y y' r r' e2 f2 e3 f3 hb
  · intro k hk
    have hk' : h.next < k := hk
    simp only [Pl.add]
    rw [if_neg (by omega)]
    exact a.fresh k (by omega)
  · intro b hb hl
    exact hf b fun e => hl ⟨o, x, p, ho, hp, e.symm⟩
  · rintro b ⟨k, y, r, hk, hr, rfl⟩
    rcases key k y r hk hr with ⟨_, e2, _⟩ | ⟨_, _, e2, e3, e4⟩
    · subst e2; exact .inl ⟨o, x, p, ho, hp, hq.symm⟩
    · exact .inl ⟨k, y, r, e2, e3, rfl⟩

theorem growBy_le (n : Nat) : ∀ (r c : Nat), c < n → Builtin.growBy n r c ≤ 2 * n + 192
  | 0, c, h => by simp [Builtin.growBy]; omega
  | r + 1, c, h => by
    simp only [Builtin.growBy]
    rw [if_neg (by omega)]
    by_cases h2 : c + (c + 768) / 4 < n
    · exact growBy_le n r _ h2
    · cases r with
      | zero => simp [Builtin.growBy]; omega
      | succ r => simp only [Builtin.growBy]; rw [if_pos (by omega)]; omega

theorem nextcap_le {n c : Nat} (h : c < n) : Builtin.nextslicecap n c ≤ 2 * n + 192 := by
  unfold Builtin.nextslicecap
  split
  · omega
  · split
    · omega
    · exact growBy_le n 4 c h

/-- the source of an append -/
theorem src_sound {h : H} {φ : Pl} {w : World} (hR : Rel h φ w) {sz : Nat} {x c : Value} {k : Nat} {new : List Value} (hs : srcA h sz x = some (k, new)) (hx : VR φ x c) :
    (∀ w, (Builtin.lenOf c).run P w = .ok k w) ∧ ∃ m, (∀ w' : World, w'.heap = w.heap → (Builtin.firstCells sz k c).run P w' = .ok ⟨m⟩ w') ∧ VRs φ new m ∧ new.length = k * sz := by
  unfold srcA at hs
  split at hs
  · rename_i k0 c0
    split at hs
    · rename_i e
      simp at hs; obtain ⟨rfl, rfl⟩ := hs
      cases hx
      exact ⟨fun _ => rfl, [], fun _ _ => rfl, .nil, by simp⟩
    · simp at hs
  · rename_i o off k0 c0
    split at hs
    · rename_i l hl
      simp at hs; obtain ⟨rfl, rfl⟩ := hs
      obtain ⟨p, m, hp, h1, h2, h3⟩ := rd_sound hR hl
      cases hx with
      | slc hp' hs1 hn hx hb' =>
        rw [hp] at hp'; simp at hp'; subst hp'
        rename_i x0 cc
        refine ⟨fun _ => rfl, m, fun w' hw' => ?_, h1, h2⟩
        rcases Nat.eq_zero_or_pos k0 with h0 | h0
        · subst h0
          have : m = [] := by
            have := h1.length; rw [h2] at this; simp at this; exact List.length_eq_zero_iff.1 this.symm
          subst this
          simp [Builtin.firstCells, loadCells, loadCellsFrom]
        · have hx0 := hb' (by omega)
          subst hx0
          exact run_firstCells_some w' sz k0 _ _ _ m (by rw [← h1.length, h2]) (fun j v hj => by rw [Addr.add_lit]; have := h3 j v hj; simpa [World.cell?, hw'] using this)
    · simp at hs
  · rename_i s
    split at hs
    case h_2 => simp at hs
    rename_i hb
    have := Nat.eq_of_beq_eq_true hb
    subst this
    simp at hs; obtain ⟨rfl, rfl⟩ := hs
    cases hx
    refine ⟨fun _ => rfl, (s.data.toList.map fun b => .int .u8 b.toNat), fun w' hw' => ?_, VRs.refl_of (fun v hv => ?_), by simp⟩
    · simp only [Builtin.firstCells, Sem.run_pure]
      congr 1
      apply Array.ext'
      simp
    · obtain ⟨b, _, rfl⟩ := List.mem_map.1 hv
      exact .int _ _
  · simp at hs

theorem zeroCells_size (z : Array Value) (n : Nat) : (Builtin.zeroCells z n).size = n * z.size := by simp [Builtin.zeroCells]

/-- the way where a new row is made -/
theorem append_grows (hE : EnvOK P E) {t u ty el : TypeId} {d : TypeDesc} {i : TypeInfo} {z : Value} {sz : Nat} (ht : E.und t = some (.slice el)) (hu : E.und u = some d) (hd : ∀ k, d ≠ .int k)
    (hi : E.T.get el = some i) (hz : i.zero = some z) (hsz : i.size = sz) {base : Option Addr} {n c k : Nat} {e : Value} {old new : List Value} {w : World} (hneed : c < n + k) (hb : (n + k) * (i.bytes + 1) ≤ 16777216)
    (h1 : (Builtin.lenOf e).run P w = .ok k w) (h2 : ∀ w' : World, w'.heap = w.heap → (Builtin.firstCells sz k e).run P w' = .ok ⟨new⟩ w') (h3 : ∀ w' : World, w'.heap = w.heap → (Builtin.firstCells sz n (.slice base n c)).run P w' = .ok ⟨old⟩ w') :
    ∃ cap dr, n + k ≤ cap ∧ (Builtin.append_ #[t, u] ty #[.slice base n c, e]).run P w = .ok (.slice (some ⟨w.heap.size, 0, none⟩) (n + k) cap)
      { w with heap := w.heap.push (.cells (⟨old⟩ ++ ⟨new⟩ ++ Builtin.zeroCells z.cells (cap - (n + k))) el (0, 0)), drawn := dr } := by
  have hsize : E.size el = some sz := by simp [Env.size, hi, hsz]
  have hzero : E.zero el = some z := by simp [Env.zero, hi, hz]
  have hinfo : ∀ w, (typeInfo el).run P w = .ok i w := fun w => by simp [typeInfo, hE.info _ _ hi, go_sem]
  have hz' : ((d matches .int _) : Bool) = false := by cases d <;> first | rfl | exact absurd rfl (hd _)
  have hnk : n + k ≤ 16777216 := Nat.le_trans (Nat.le_mul_of_pos_right _ (by omega)) hb
  have hcap := nextcap_le hneed
  have hbytes : Builtin.nextslicecap (n + k) c * i.bytes ≤ 2 ^ 48 := by
    have h5 : Builtin.nextslicecap (n + k) c * i.bytes ≤ (2 * (n + k) + 192) * i.bytes := Nat.mul_le_mul_right _ hcap
    have h6 : (n + k) * i.bytes ≤ 16777216 := Nat.le_trans (Nat.mul_le_mul_left _ (by omega)) hb
    have h7 : i.bytes ≤ 16777216 := by
      have : 1 * (i.bytes + 1) ≤ (n + k) * (i.bytes + 1) := Nat.mul_le_mul_right _ (by omega)
      omega
    have h8 : (2 * (n + k) + 192) * i.bytes = 2 * ((n + k) * i.bytes) + 192 * i.bytes := by rw [Nat.add_mul, Nat.mul_assoc]
    omega
  refine ⟨(Question.appendCap (n + k) c el).cut (w.tape w.drawn (.appendCap (n + k) c el)), w.drawn + 1, by simp [Question.cut], ?_⟩
  simp only [Builtin.append_, List.getElem?_toArray, List.getElem?_cons_zero, List.getElem?_cons_succ, Sem.run_bind, run_und hE ht, Result.andThen_ok, run_size hE hsize, run_und hE hu, Sem.run_pure, hz']
  have hmax : ¬ ((((n + k : Nat) : Int) > IntKind.i64.max) ∧ ((false = true) ∨ i.bytes = 0)) := by
    rintro ⟨h9, _⟩
    have : IntKind.i64.max = 9223372036854775807 := by simp [IntKind.max, IntKind.signed, IntKind.bits]
    rw [this] at h9
    omega
  have hroom : ∀ (n : Nat) (w : World), (askRoom n).run P w = .ok () w := by
    intro n w; unfold askRoom; split <;> rfl
  simp only [Bool.false_eq_true, if_false, Sem.run_bind, h1, Result.andThen_ok]
  rw [if_neg (by omega)]
  simp only [Sem.run_bind, hinfo, Result.andThen_ok]
  rw [if_neg (by simpa using hmax)]
  simp only [Sem.run_bind, hinfo, Result.andThen_ok]
  rw [if_neg (by omega)]
  simp only [Sem.run_bind, choose, Sem.run, Question.forced, Bool.false_eq_true, if_false, Result.andThen_ok, hinfo, hroom]
  rw [h3 { w with drawn := w.drawn + 1 } rfl]
  simp only [Result.andThen_ok, Bool.not_false, if_true]
  rw [h2 { w with drawn := w.drawn + 1 } rfl]
  simp only [Result.andThen_ok, run_zero hE hzero, newRow, newObj, Sem.run_bind, Sem.run, Sem.run_pure]

/-- append of so many zero elements to the nil slice -/
theorem append_zeros (hE : EnvOK P E) {t u ty el : TypeId} {kk kx : IntKind} {i : TypeInfo} {z : Value} {sz : Nat} (ht : E.und t = some (.slice el)) (hu : E.und u = some (.int kk))
    (hi : E.T.get el = some i) (hz : i.zero = some z) (hsz : i.size = sz + 1) {k : Nat} {w : World} (hk : 0 < k) (hb : k * (i.bytes + 1) ≤ 16777216) :
    ∃ cap dr, k ≤ cap ∧ (Builtin.append_ #[t, u] ty #[.slice none 0 0, .int kx (Int.ofNat k)]).run P w = .ok (.slice (some ⟨w.heap.size, 0, none⟩) k cap)
      { w with heap := w.heap.push (.cells (Builtin.zeroCells z.cells k ++ Builtin.zeroCells z.cells (cap - k)) el (0, 0)), drawn := dr } := by
  have hsize : E.size el = some (sz + 1) := by simp [Env.size, hi, hsz]
  have hzero : E.zero el = some z := by simp [Env.zero, hi, hz]
  have hinfo : ∀ w, (typeInfo el).run P w = .ok i w := fun w => by simp [typeInfo, hE.info _ _ hi, go_sem]
  have hnk : k ≤ 16777216 := Nat.le_trans (Nat.le_mul_of_pos_right _ (by omega)) hb
  have hcap : Builtin.nextslicecap k 0 ≤ 2 * k + 192 := nextcap_le hk
  have h6 : k * i.bytes ≤ 16777216 := Nat.le_trans (Nat.mul_le_mul_left _ (by omega)) hb
  have hbytes : Builtin.nextslicecap k 0 * i.bytes ≤ 2 ^ 48 := by
    have h5 : Builtin.nextslicecap k 0 * i.bytes ≤ (2 * k + 192) * i.bytes := Nat.mul_le_mul_right _ hcap
    have h7 : i.bytes ≤ 16777216 := by
      have : 1 * (i.bytes + 1) ≤ k * (i.bytes + 1) := Nat.mul_le_mul_right _ (by omega)
      omega
    have h8 : (2 * k + 192) * i.bytes = 2 * (k * i.bytes) + 192 * i.bytes := by rw [Nat.add_mul, Nat.mul_assoc]
    omega
  have hwrap : IntKind.i64.wrap (Int.ofNat k) = (k : Int) := by
    rw [IntKind.wrap_i64]
    show _ = (k : Int)
    have : (Int.ofNat k) = (k : Int) := rfl
    rw [this]; omega
  have hroom : ∀ (n : Nat) (w : World), (askRoom n).run P w = .ok () w := by
    intro n w; unfold askRoom; split <;> rfl
  refine ⟨(Question.appendCap k 0 el).cut (w.tape w.drawn (.appendCap k 0 el)), w.drawn + 1, by simp [Question.cut], ?_⟩
  have hmax : ¬ (((k : Nat) : Int) > IntKind.i64.max) := by
    have : IntKind.i64.max = 9223372036854775807 := by simp [IntKind.max, IntKind.signed, IntKind.bits]
    rw [this]; omega
  have hl : ¬ ((k : Int) * (i.bytes : Int) > 2 ^ 48) := by
    have : (k : Int) * (i.bytes : Int) = ((k * i.bytes : Nat) : Int) := by simp
    rw [this]; omega
  simp only [Builtin.append_, List.getElem?_toArray, List.getElem?_cons_zero, List.getElem?_cons_succ, Sem.run_bind, run_und hE ht, Result.andThen_ok, run_size hE hsize, run_und hE hu, Sem.run_pure]
  simp only [if_true, asInt, asIntOf, Sem.run_bind, Sem.run_pure, Result.andThen_ok, hwrap]
  rw [if_neg (by omega)]
  simp only [Sem.run_bind, hinfo, Result.andThen_ok, Sem.run_pure]
  rw [if_neg hl]
  simp only [Sem.run_bind, Result.andThen_ok, Sem.run_pure, Int.toNat_natCast, Nat.zero_add]
  rw [if_neg (by omega)]
  simp only [Sem.run_bind, hinfo, Result.andThen_ok]
  rw [if_neg (show ¬ (((k : Nat) : Int) > IntKind.i64.max ∧ _) from fun h9 => hmax h9.1)]
  simp only [Sem.run_bind, hinfo, Result.andThen_ok]
  rw [if_neg (by omega)]
  simp only [Sem.run_bind, choose, Sem.run, Question.forced, Bool.false_eq_true, if_false, Result.andThen_ok, hinfo, hroom]
  simp only [Builtin.firstCells, Sem.run_pure, Result.andThen_ok, Bool.not_true, Bool.false_eq_true, if_false]
  have hks : ¬ k * (sz + 1) = 0 := by have : 0 < k * (sz + 1) := Nat.mul_pos hk (Nat.succ_pos sz); omega
  rw [if_neg hks]
  simp only [Sem.run_bind, run_zero hE hzero, Result.andThen_ok, newRow, newObj, Sem.run, Sem.run_pure]
  simp

theorem Rel.heap_eq {h : H} {φ : Pl} {w w' : World} (a : Rel h φ w) (e : w'.heap = w.heap) : Rel h φ w' :=
  ⟨fun o x ho => let ⟨p, h1, h2⟩ := a.obj o x ho; ⟨p, h1, h2.world (by rw [e])⟩, a.inj, a.fresh⟩

theorem VRs.cells_push {φ ψ : Pl} {a b m1 m2 : List Value} (h1 : VRs φ a m1) (h2 : VRs φ b m2) (e : Ext φ ψ) (r : List Value) {i : Nat} {v : Value} (hv : (a ++ b)[i]? = some v) : ∃ y, (m1 ++ m2 ++ r)[i]? = some y ∧ VR ψ v y := by
  obtain ⟨y, hy, hvy⟩ := ((h1.append h2).mono e).get hv
  refine ⟨y, ?_, hvy⟩
  rw [List.getElem?_append_left (List.getElem?_eq_some_iff.1 hy).1]
  exact hy

theorem appendZ_sound (hE : EnvOK P E) {h : H} {φ : Pl} {w : World} (hR : Rel h φ w) {t u ty : TypeId} {kk : IntKind} {s x v c e : Value} {h' : H} (ha : appendZ E t s x h = some (v, h'))
    (hu : E.und u = some (.int kk)) (hs : VR φ s c) (hx : VR φ x e) :
    ∃ k φ' w', (Builtin.append_ #[t, u] ty #[c, e]).run P w = .ok k w' ∧ VR φ' v k ∧ Rel h' φ' w' ∧ Step h φ w h' φ' w' := by
  unfold appendZ at ha
  split at ha
  case h_2 => simp at ha
  rename_i el kx k ht
  split at ha
  case h_2 => simp at ha
  rename_i i hi
  split at ha
  case h_2 => simp at ha
  rename_i sz z hsz hz
  split at ha
  case h_2 => simp at ha
  rename_i hp hzs hbnd
  have hzs := Nat.eq_of_beq_eq_true hzs
  have hbnd : (k + 1) * (i.bytes + 1) ≤ 16777216 := Nat.le_of_ble_eq_true hbnd
  simp only [Option.some.injEq, Prod.mk.injEq] at ha; obtain ⟨rfl, rfl⟩ := ha
  cases hs
  cases hx
  obtain ⟨cap, dr, hcap, hrun⟩ := append_zeros (P := P) (ty := ty) (kx := kx) hE ht hu hi hz hsz (k := k + 1) (w := w) (by omega) hbnd
  have hzl : (Builtin.zeroCells z.cells (k + 1)).toList = repl z.cells.toList (k + 1) := by
    have := repl_range z.cells (sz + 1) (k + 1) hzs (by omega)
    rw [← this]
    simp [Builtin.zeroCells, hzs]
  obtain ⟨r1, r2⟩ := (hR.drawn dr).new (.cells (Builtin.zeroCells z.cells (k + 1) ++ Builtin.zeroCells z.cells (cap - (k + 1))) el (0, 0)) (.cells (repl z.cells.toList (k + 1)) el) 0 (cap * (sz + 1)) (by
    refine ⟨(Builtin.zeroCells z.cells (k + 1) ++ Builtin.zeroCells z.cells (cap - (k + 1))), by simp [Array.getElem?_push], ?_, fun i v hv => ?_⟩
    · simp only [Array.size_append, zeroCells_size, hzs]
      rw [← Nat.add_mul]; congr 1; omega
    · obtain ⟨y, hy, hvy⟩ := (repl_VRs (φ := φ.add h.next ⟨w.heap.size, 0, cap * (sz + 1)⟩) hp (k + 1)).get hv
      refine ⟨y, ?_, hvy⟩
      rw [← hzl] at hy
      rw [Nat.zero_add, Array.getElem?_append_left (by have := (List.getElem?_eq_some_iff.1 hy).1; simpa using this)]
      simpa using hy)
  refine ⟨_, _, _, hrun, ?_, r1, r2.drawn'⟩
  exact VR.slc (x := 0) (Pl.add_self _ _ _) (by omega) hcap (by simp) (fun _ => rfl)

theorem append_sound (hE : EnvOK P E) {h : H} {φ : Pl} {w : World} (hR : Rel h φ w) {t u ty : TypeId} {d : TypeDesc} {s x v c e : Value} {h' : H} (ha : appendA E t s x h = some (v, h'))
    (hu : E.und u = some d) (hd : ∀ k, d ≠ .int k) (hs : VR φ s c) (hx : VR φ x e) :
    ∃ k φ' w', (Builtin.append_ #[t, u] ty #[c, e]).run P w = .ok k w' ∧ VR φ' v k ∧ Rel h' φ' w' ∧ Step h φ w h' φ' w' := by
  unfold appendA at ha
  split at ha
  case h_2 => simp at ha
  rename_i el p n cs ht
  split at ha
  case h_2 => simp at ha
  rename_i i hi
  split at ha
  case h_2 => simp at ha
  rename_i sz z k new hsz hz hsrc
  split at ha
  case h_2 => simp at ha
  rename_i hp hzs hbnd hcv
  have hzs := Nat.eq_of_beq_eq_true hzs
  have hbnd : (n + k) * (i.bytes + 1) ≤ 16777216 := Nat.le_of_ble_eq_true hbnd
  have hsize : E.size el = some (sz + 1) := by simp [Env.size, hi, hsz]
  rw [hsz] at hsrc
  simp only [Nat.succ_eq_add_one] at hsrc hsz
  obtain ⟨hlen, m, hfc', hnew, hnl⟩ := src_sound (P := P) hR hsrc hx
  have hfc := hfc' w rfl
  have hzint : ((d matches .int _) : Bool) = false := by cases d <;> first | rfl | exact absurd rfl (hd _)
  split at ha
  · -- nil
    split at ha
    case h_2 => simp at ha
    cases hs
    split at ha
    · simp at ha; obtain ⟨rfl, rfl⟩ := ha
      refine ⟨.slice none 0 0, φ, w, ?_, .nslc _ _, hR, Step.refl _ _ _⟩
      simp only [Builtin.append_, List.getElem?_toArray, List.getElem?_cons_zero, List.getElem?_cons_succ, Sem.run_bind, run_und hE ht, Result.andThen_ok, run_size hE hsize, run_und hE hu, Sem.run_pure, hzint]
      simp only [Bool.false_eq_true, if_false, Sem.run_bind, hlen, Result.andThen_ok]
      rw [if_pos (by omega)]
      simp only [Sem.run_bind, Bool.not_false, if_true, hfc, Result.andThen_ok]
      rfl
    · rename_i hk
      simp at ha; obtain ⟨rfl, rfl⟩ := ha
      have hk : 0 < k := Nat.pos_of_ne_zero hk
      obtain ⟨cap, dr, hcap, hrun⟩ := append_grows (P := P) (ty := ty) hE ht hu hd hi hz hsz (base := none) (n := 0) (c := 0) (k := k) (e := e) (old := []) (new := m) (w := w) (by omega) hbnd (hlen w) hfc' (fun w' _ => by simp [Builtin.firstCells])
      have hml : m.length = k * (sz + 1) := by rw [← hnew.length]; exact hnl
      obtain ⟨r1, r2⟩ := (hR.drawn dr).new (.cells (⟨[]⟩ ++ ⟨m⟩ ++ Builtin.zeroCells z.cells (cap - (0 + k))) el (0, 0)) (.cells new el) 0 (m.length + (cap - k) * (sz + 1)) (by
        refine ⟨(⟨[]⟩ ++ ⟨m⟩ ++ Builtin.zeroCells z.cells (cap - (0 + k))), by simp [Array.getElem?_push], by simp [zeroCells_size, hzs], fun i v hv => ?_⟩
        obtain ⟨y, hy, hvy⟩ := VRs.cells_push (φ := φ) .nil hnew (Pl.add_ext _ (hR.fresh _ (Nat.le_refl _))) (Builtin.zeroCells z.cells (cap - (0 + k))).toList (by simpa using hv)
        refine ⟨y, ?_, hvy⟩
        rw [← hy]
        simp [← Array.getElem?_toList])
      refine ⟨_, _, _, hrun, ?_, r1, r2.drawn _⟩
      have hc2 : cap * (sz + 1) = m.length + (cap - k) * (sz + 1) := by rw [hml, ← Nat.add_mul]; congr 1; omega
      have := VR.slc (φ := φ.add h.next ⟨w.heap.size, 0, m.length + (cap - k) * (sz + 1)⟩) (o := h.next) (off := 0) (n := k) (s := sz + 1) (x := 0) (c := cap) (Pl.add_self _ _ _) (by omega) (by omega) (by simp; omega) (fun _ => rfl)
      simpa using this
  · -- an array that is there
    rename_i o off
    split at ha
    · simp at ha; obtain ⟨rfl, rfl⟩ := ha
      cases hs with
      | slc hp' hs1 hn hx0 hb' =>
      rename_i x0 cap p
      refine ⟨.slice (some ⟨p.b, x0, none⟩) n cap, φ, w, ?_, .slc hp' hs1 hn hx0 hb', hR, Step.refl _ _ _⟩
      simp only [Builtin.append_, List.getElem?_toArray, List.getElem?_cons_zero, List.getElem?_cons_succ, Sem.run_bind, run_und hE ht, Result.andThen_ok, run_size hE hsize, run_und hE hu, Sem.run_pure, hzint]
      simp only [Bool.false_eq_true, if_false, Sem.run_bind, hlen, Result.andThen_ok]
      rw [if_pos (by omega)]
      have hm0 : m = [] := by have := hnew.length; rw [hnl] at this; simp at this; exact List.length_eq_zero_iff.1 this.symm
      subst hm0
      simp only [Sem.run_bind, Bool.not_false, if_true, hfc, Result.andThen_ok, storeCells, Sem.run_pure, Nat.add_zero]
    · rename_i hk
      have hk : 0 < k := Nat.pos_of_ne_zero hk
      split at ha
      case h_2 => simp at ha
      rename_i vs e' ho hcs
      have hcs := Nat.eq_of_beq_eq_true hcs
      split at ha
      case h_2 => simp at ha
      rename_i old hold hel
      have hel := Nat.eq_of_beq_eq_true hel
      subst hel; subst hcs
      simp at ha; obtain ⟨rfl, rfl⟩ := ha
      have hrd : rd h o off (n * (sz + 1)) = some old := by simp [rd, ho, hold]
      obtain ⟨p, mo, hp', hvo, hol, hcells⟩ := rd_sound hR hrd
      cases hs with
      | slc hp'' hs1 hn hx0 hb' =>
      rename_i x0 cap p2
      rw [hp'] at hp''; simp at hp''; subst hp''
      obtain ⟨p3, hp3, c0, hc1, hc2, hc3⟩ := hR.obj _ _ ho
      rw [hp'] at hp3; simp at hp3; subst hp3
      have hml : m.length = k * (sz + 1) := by rw [← hnew.length]; exact hnl
      have hmol : mo.length = n * (sz + 1) := by rw [← hvo.length]; exact hol
      have hoc : ∀ w' : World, w'.heap = w.heap → (Builtin.firstCells (sz + 1) n (.slice (some ⟨p.b, x0, none⟩) n cap)).run P w' = .ok ⟨mo⟩ w' := by
        intro w' hw'
        rcases Nat.eq_zero_or_pos n with h0 | h0
        · subst h0
          simp at hmol; subst hmol
          simp [Builtin.firstCells, loadCells, loadCellsFrom]
        · have hx1 := hb' (by omega)
          subst hx1
          exact run_firstCells_some w' (sz + 1) n _ _ _ mo hmol (fun j v hj => by rw [Addr.add_lit]; have := hcells j v hj; simpa [World.cell?, hw'] using this)
      by_cases hroom : n + k ≤ cap
      · -- in place
        have hbd : x0 + n * (sz + 1) + m.length ≤ c0.size := by
          have : (n + k) * (sz + 1) ≤ cap * (sz + 1) := Nat.mul_le_mul_right _ hroom
          rw [hml, Nat.add_assoc, ← Nat.add_mul]
          omega
        have hst := run_storeCells_at (P := P) p.b (x0 + n * (sz + 1)) e' m 0 c0 w hc1 (by simpa using hbd) (fun v hv => by
          rw [← cellv_eq]; rw [← hnew.all_cellv] at hcv; exact List.all_eq_true.1 hcv v hv)
        simp only [Nat.add_zero] at hst
        obtain ⟨r1, r2⟩ := hR.alias ho hp' (q := ⟨p.b, x0, p.sz⟩) (z := .cells (old ++ new) e') rfl (w' := w.setRow p.b (c0.toList.take (x0 + n * (sz + 1)) ++ m ++ c0.toList.drop (x0 + n * (sz + 1) + m.length)).toArray)
          ⟨_, setRow_heap w _ _ _ _ _ hc1, by simp; omega, by
            intro i v hv
            have hext := Pl.add_ext (φ := φ) (⟨p.b, x0, p.sz⟩ : Pt) (hR.fresh _ (Nat.le_refl _))
            by_cases c1 : i < old.length
            · have h5 : old[i]? = some v := by rwa [List.getElem?_append_left c1] at hv
              rw [seg_get hold] at h5
              rw [hol] at c1
              rw [if_pos c1] at h5
              obtain ⟨y, hy, hvy⟩ := hc3 _ _ h5
              refine ⟨y, ?_, hvy.mono hext⟩
              have hx1 := hb' (by rcases Nat.eq_zero_or_pos n with h0 | h0; (subst h0; simp at c1); omega)
              have h4 := (Array.getElem?_eq_some_iff.1 hy).1
              simp only [List.getElem?_toArray]
              rw [List.append_assoc, List.getElem?_append_left (by simp; omega), List.getElem?_take, if_pos (by omega)]
              rw [← hy]; simp [hx1, Nat.add_assoc]
            · have h5 : new[i - old.length]? = some v := by rwa [List.getElem?_append_right (by omega)] at hv
              obtain ⟨y, hy, hvy⟩ := hnew.get h5
              refine ⟨y, ?_, hvy.mono hext⟩
              have h6 := (List.getElem?_eq_some_iff.1 hy).1
              simp only [List.getElem?_toArray]
              rw [List.append_assoc, List.getElem?_append_right (by simp; omega), List.getElem?_append_left (by simp; omega), ← hy]
              congr 1; simp; omega⟩ (by simp) (fun b hb => setRow_other w _ _ _ hb) rfl rfl rfl
        refine ⟨.slice (some ⟨p.b, x0, none⟩) (n + k) cap, _, _, ?_, ?_, r1, r2⟩
        · simp only [Builtin.append_, List.getElem?_toArray, List.getElem?_cons_zero, List.getElem?_cons_succ, Sem.run_bind, run_und hE ht, Result.andThen_ok, run_size hE hsize, run_und hE hu, Sem.run_pure, hzint]
          simp only [Bool.false_eq_true, if_false, Sem.run_bind, hlen, Result.andThen_ok]
          rw [if_pos hroom]
          simp only [Sem.run_bind, Bool.not_false, if_true, hfc, Result.andThen_ok, Addr.add_lit, hst, Sem.run_pure]
        · exact VR.slc (p := ⟨p.b, x0, p.sz⟩) (Pl.add_self _ _ _) (by omega) hroom hx0 (fun _ => rfl)
      · -- a new row
        obtain ⟨cap', dr, hcap, hrun⟩ := append_grows (P := P) (ty := ty) hE ht hu hd hi hz hsz (base := some ⟨p.b, x0, none⟩) (n := n) (c := cap) (k := k) (e := e) (old := mo) (new := m) (w := w) (by omega) hbnd (hlen w) hfc' hoc
        obtain ⟨s1, s2⟩ := (hR.drawn dr).del o
        obtain ⟨r1, r2⟩ := s1.new (.cells (⟨mo⟩ ++ ⟨m⟩ ++ Builtin.zeroCells z.cells (cap' - (n + k))) e' (0, 0)) (.cells (old ++ new) e') 0 (mo.length + m.length + (cap' - (n + k)) * (sz + 1)) (by
          refine ⟨(⟨mo⟩ ++ ⟨m⟩ ++ Builtin.zeroCells z.cells (cap' - (n + k))), by simp [Array.getElem?_push], by simp [zeroCells_size, hzs], fun i v hv => ?_⟩
          obtain ⟨y, hy, hvy⟩ := VRs.cells_push (φ := φ) hvo hnew (Pl.add_ext _ (s1.fresh _ (Nat.le_refl _))) (Builtin.zeroCells z.cells (cap' - (n + k))).toList hv
          refine ⟨y, ?_, hvy⟩
          rw [← hy]
          simp [← Array.getElem?_toList])
        refine ⟨_, _, _, hrun, ?_, r1, ((s2.trans r2).drawn _)⟩
        have hc2 : cap' * (sz + 1) = mo.length + m.length + (cap' - (n + k)) * (sz + 1) := by rw [hml, hmol, ← Nat.add_mul, ← Nat.add_mul]; congr 1; omega
        exact VR.slc (off := 0) (x := 0) (Pl.add_self _ _ _) (by omega) hcap (by simp; omega) (fun _ => rfl)
  · simp at ha

end Go.Eng
end

section
namespace Go.Eng
open Go.MapKept (bytes_beq)
variable {P : Program} {E : Env}

theorem ERs.length {φ : Pl} {xs ys : List MapEntry} (h : ERs φ xs ys) : ys.length = xs.length := by
  induction h with
  | nil => rfl
  | cons _ _ ih => simp [ih]

theorem ERs.get {φ : Pl} {xs ys : List MapEntry} (h : ERs φ xs ys) {i : Nat} {x : MapEntry} (hx : xs[i]? = some x) : ∃ y, ys[i]? = some y ∧ ER φ x y := by
  induction h generalizing i with
  | nil => simp at hx
  | cons h _ ih =>
    cases i with
    | zero => simp at hx; subst hx; exact ⟨_, rfl, h⟩
    | succ i => simpa using ih (by simpa using hx)

theorem ERs.snoc {φ : Pl} {xs ys : List MapEntry} (h : ERs φ xs ys) {x y : MapEntry} (hxy : ER φ x y) : ERs φ (xs ++ [x]) (ys ++ [y]) := by
  induction h with
  | nil => exact .cons hxy .nil
  | cons h _ ih => exact .cons h ih

theorem ERs.modify {φ : Pl} {xs ys : List MapEntry} (h : ERs φ xs ys) (f g : MapEntry → MapEntry) (hfg : ∀ x y, ER φ x y → ER φ (f x) (g y)) (i : Nat) : ERs φ (xs.modify i f) (ys.modify i g) := by
  induction h generalizing i with
  | nil => cases i <;> simp [List.modify_nil] <;> exact .nil
  | cons h t ih =>
    cases i with
    | zero => simp only [List.modify_zero_cons]; exact .cons (hfg _ _ h) t
    | succ i => simp only [List.modify_succ_cons]; exact .cons h (ih i)

theorem ERs.erase {φ : Pl} {xs ys : List MapEntry} (h : ERs φ xs ys) (i : Nat) : ERs φ (xs.eraseIdx i) (ys.eraseIdx i) := by
  induction h generalizing i with
  | nil => simp; exact .nil
  | cons h t ih =>
    cases i with
    | zero => simpa using t
    | succ i => simp only [List.eraseIdx_cons_succ]; exact .cons h (ih i)

theorem keyD_sound (hE : EnvOK P E) {t : TypeId} {d : TypeDesc} (h : keyD E t = some d) : E.und t = some d ∧ ((∃ k, d = .int k) ∨ d = .string) := by
  unfold keyD at h
  split at h
  · rename_i k hk; simp at h; subst h; exact ⟨hk, .inl ⟨k, rfl⟩⟩
  · rename_i hk; simp at h; subst h; exact ⟨hk, .inr rfl⟩
  · simp at h

theorem check_sound (hE : EnvOK P E) {t : TypeId} {d : TypeDesc} (h : keyD E t = some d) (b : Bool) (v : Value) (w : World) : (Instr.checkKey b 10000 t v).run P w = .ok () w := by
  obtain ⟨hu, hd⟩ := keyD_sound hE h
  unfold Instr.checkKey
  simp only [Sem.run_bind, run_und hE hu, Result.andThen_ok]
  rcases hd with ⟨k, rfl⟩ | rfl <;> rfl

theorem sameKey_sound {d : TypeDesc} {k x : Value} {b : Bool} (h : sameKey d k x = some b) {φ : Pl} {c y : Value} (hk : VR φ k c) (hx : VR φ x y) : Instr.sameNow d c y = some b ∧ (b = true → Instr.sameBits 10000 y c = true) := by
  unfold sameKey at h
  split at h
  · cases hk; cases hx
    split at h
    · rename_i hkk
      simp at hkk h; subst hkk; subst h
      refine ⟨by simp [Instr.sameNow], fun h => ?_⟩
      have h := eq_of_beq h; subst h; simp [Instr.sameBits]
    · simp at h
  · cases hk; cases hx
    simp at h; subst h
    refine ⟨by simp [Instr.sameNow], fun h => ?_⟩
    have h := (bytes_beq _ _).1 h; subst h; simp [Instr.sameBits, (bytes_beq _ _).2 rfl]
  · simp at h

theorem find_sound {d : TypeDesc} {k : Value} {φ : Pl} {c : Value} (hk : VR φ k c) : ∀ {es es' : List MapEntry} {i : Nat} {r : Option (Nat × Value)}, findK d k es i = some r → ERs φ es es' →
    (r = none ∧ Instr.findNow d c es' i = some none) ∨ (∃ j v v', r = some (i + j, v) ∧ Instr.findNow d c es' i = some (some (i + j, v')) ∧ VR φ v v' ∧ ∃ e', es'[j]? = some e' ∧ Instr.sameBits 10000 e'.key c = true) := by
  intro es
  induction es with
  | nil => intro es' i r h he; cases he; simp [findK] at h; subst h; exact .inl ⟨rfl, rfl⟩
  | cons e es ih =>
    intro es' i r h he
    cases he with
    | cons hxy t =>
      rename_i y ys
      simp only [findK] at h
      split at h
      · rename_i hs
        simp at h; subst h
        obtain ⟨h1, h2⟩ := sameKey_sound hs hk hxy.1
        exact .inr ⟨0, _, y.val, rfl, by simp [Instr.findNow, h1], hxy.2.1, y, rfl, h2 rfl⟩
      · rename_i hs
        obtain ⟨h1, _⟩ := sameKey_sound hs hk hxy.1
        rcases ih h t with ⟨h2, h3⟩ | ⟨j, v, v', h2, h3, h4, e', h5, h6⟩
        · exact .inl ⟨h2, by simp [Instr.findNow, h1, h3]⟩
        · exact .inr ⟨j + 1, v, v', by rw [h2]; congr 2; omega, by simp [Instr.findNow, h1, h3]; omega, h4, e', by simpa using h5, h6⟩
      · simp at h

theorem findKey_sound (hE : EnvOK P E) {kt : TypeId} {d : TypeDesc} (hd : keyD E kt = some d) {k c : Value} {φ : Pl} (hk : VR φ k c) {es : List MapEntry} {es' : Array MapEntry} {r : Option (Nat × Value)} (h : findK d k es 0 = some r) (he : ERs φ es es'.toList) (w : World) :
    (r = none ∧ (Instr.findKey kt c es'.toList).run P w = .ok none w) ∨
    ∃ j v v', r = some (j, v) ∧ (Instr.findKey kt c es'.toList).run P w = .ok (some (j, v')) w ∧ VR φ v v' ∧ ∃ e', es'[j]? = some e' ∧ Instr.sameBits 10000 e'.key c = true := by
  obtain ⟨hu, _⟩ := keyD_sound hE hd
  rcases find_sound hk h he with ⟨h1, h2⟩ | ⟨j, v, v', h1, h2, h3, e', h4, h5⟩
  · exact .inl ⟨h1, by simp [Instr.findKey, Sem.run_bind, run_und hE hu, h2]⟩
  · exact .inr ⟨j, v, v', by simpa using h1, by simp at h2; simp [Instr.findKey, Sem.run_bind, run_und hE hu, h2], h3, e', by simpa using h4, h5⟩

theorem run_setMap {w : World} {r : Nat} {es : Array MapEntry} {k : Nat} (o : Obj) (h : w.heap[r]? = some (.map es k)) : (setObj r o).run P w = .ok () { w with heap := w.heap.setIfInBounds r o } := by
  simp [setObj, Sem.run, h]

theorem Rel.setMap {h : H} {φ : Pl} {w : World} (a : Rel h φ w) {r : Nat} {es es1 : List MapEntry} {k k1 : Nat} {p : Pt} {es' es1' : Array MapEntry} (ho : h.get r = some (.map es k)) (hp : φ r = some p) (hb : w.heap[p.b]? = some (.map es' k)) (h1 : ERs φ es1 es1'.toList) :
    Rel (h.set r (.map es1 k1)) φ { w with heap := w.heap.setIfInBounds p.b (.map es1' k1) } ∧ Step h φ w (h.set r (.map es1 k1)) φ { w with heap := w.heap.setIfInBounds p.b (.map es1' k1) } := by
  have hlt := (Array.getElem?_eq_some_iff.1 hb).1
  refine a.set ho hp ⟨es1', by simp [hlt], h1⟩ (by simp) (fun b hne => ?_) rfl rfl rfl
  simp only [Array.getElem?_setIfInBounds]
  rw [if_neg (fun e => hne e.symm)]

theorem run_getMap {w : World} {r : Nat} {es : Array MapEntry} {k : Nat} (h : w.heap[r]? = some (.map es k)) : (getObj r).run P w = .ok (.map es k) w := by
  simp [getObj, Sem.run, h]

theorem strOf_sound {φ : Pl} : ∀ {l m : List Value} {r : List UInt8}, strOf l = some r → VRs φ l m → m = r.map fun b => .int .u8 (b.toNat : Int) := by
  intro l
  induction l with
  | nil => intro m r h hl; cases hl; simp [strOf] at h; subst h; rfl
  | cons x l ih =>
    intro m r h hl
    cases hl with
    | cons h1 t =>
      unfold strOf at h
      split at h
      · rename_i heq; simp at heq
      · rename_i n r' heq
        simp at heq; obtain ⟨rfl, rfl⟩ := heq
        split at h
        · rename_i l' hl' hlt
          simp at h; subst h
          cases h1
          rw [ih hl' t]
          have hlt := Nat.le_of_ble_eq_true hlt
          simp; omega
        · simp at h
      · simp at h

theorem effA_sound (hE : EnvOK P E) {h : H} {φ : Pl} {w : World} (hR : Rel h φ w) {op : Op} {vs : List Value} {v : Value} {h' : H} (he : effA E op vs h = some (v, h')) {ρ : Operand → Value} (hr : VRs φ vs ((opnds op).map ρ)) {O : Oper} (ho : O.op = op) :
    EffOK P φ h w (execOp ρ O) v h' := by
  unfold effA at he
  split at he
  case h_1 t X Y o off x => -- store
    cases hr with | cons h1 hr' => ?_
    cases hr' with | cons h2 _ => ?_
    generalize hc : ρ X = cv at h1
    generalize hd : ρ Y = dv at h2
    split at he
    · rename_i n hn
      split at he
      · rename_i h'' hsz hw
        have hsz := Nat.eq_of_beq_eq_true hsz
        simp at he; obtain ⟨rfl, rfl⟩ := he
        obtain ⟨p, hp, hst⟩ := wr_sound (P := P) hR hw
        cases h1 with
        | ptr hp' =>
          rw [hp] at hp'; simp at hp'; subst hp'
          obtain ⟨w', h3, h4, h5⟩ := hst _ h2.cells
          refine ⟨.skip, undef, φ, w', ?_, .inr ⟨rfl, rfl⟩, VR.undef, h4, h5⟩
          have hs : dv.cells.size = n := by have := h2.cells.length; simp at this; omega
          simp only [execOp, ho, hc, hd, Instr.storeAt, Instr.sureAddr, storeVar, Sem.run_bind, Sem.run_pure, Result.andThen_ok, run_size hE hn, hs, ne_eq, not_true_eq_false, if_false, h3]
      · simp at he
    · simp at he
  case h_2 s d X o off n c => -- bytes to a string
    cases hr with | cons h1 _ => ?_
    generalize hc : ρ X = cv at h1
    split at he
    · rename_i el hs hd
      split at he
      · rename_i l hel hl
        split at he
        · rename_i r hr2
          simp at he; obtain ⟨rfl, rfl⟩ := he
          obtain ⟨p, m, hp, h2, h3, h4⟩ := rd_sound hR hl
          have hm := strOf_sound hr2 h2
          cases h1 with
          | slc hp2 hs1 hn hx hb' =>
            rename_i x0 cap q
            rw [hp] at hp2; simp at hp2; subst hp2
            have hml : m.length = n := by rw [← h2.length]; exact h3
            have hlc : (loadCells ⟨p.b, x0, none⟩ n).run P w = .ok ⟨m⟩ w := by
              rcases Nat.eq_zero_or_pos n with h0 | h0
              · subst h0
                simp at hml; subst hml
                simp [loadCells, loadCellsFrom]
              · have := hb' h0
                subst this
                rw [← hml]
                exact run_loadCells_list w _ m (fun j v hj => by rw [Addr.add_lit]; exact h4 j v hj)
            refine ⟨.value (.string ⟨r.toArray⟩), _, φ, w, ?_, .inl rfl, .str _, hR, Step.refl _ _ _⟩
            have hns : (⟨m⟩ : Array Value) = ((r.map fun b => (b.toNat : Int)).map (Value.int .u8)).toArray := by rw [hm]; simp
            rw [hns] at hlc
            have hfold : ∀ (l : List UInt8) (s : ByteArray), (l.map fun b => (b.toNat : Int)).foldl (fun (r : ByteArray) n => r.push (UInt8.ofNat n.toNat)) s = ⟨(s.data.toList ++ l).toArray⟩ := by
              intro l
              induction l with
              | nil => intro s; simp
              | cons b l ih =>
                intro s
                simp only [List.map_cons, List.foldl_cons, ih]
                simp
            simp only [execOp, ho, hc]
            rw [Sem.run_bind, run_convert_bytes_string w _ _ _ _ _ _ (hE.und hs) (hE.und hel) (hE.und hd), run_bytesToString w _ _ _ _ hlc, hfold]
            simp
        · simp at he
      · simp at he
    · simp at he
  case h_3 t X Y ok m k => -- lookup
    cases hr with | cons h1 hr' => ?_
    cases hr' with | cons h2 _ => ?_
    generalize hc : ρ X = cv at h1
    generalize hd : ρ Y = dv at h2
    have hput : ∀ {ψ : Pl} {a b : Value} (q : Bool), VR ψ a b → VR ψ (tupleIf ok a q) (if ok then .tuple #[b, .bool q] else b) := by
      intro ψ a b q hab
      cases ok
      · exact hab
      · exact .tuple (.cons hab (.cons (.bool _) .nil))
    split at he
    · rename_i kt el hu
      split at he
      · rename_i d z hkd hz
        split at he
        · rename_i hp
          simp at he; obtain ⟨rfl, rfl⟩ := he
          cases h1
          refine ⟨_, _, φ, w, ?_, .inl rfl, hput false (VR.plain φ hp), hR, Step.refl _ _ _⟩
          obtain ⟨hu2, _⟩ := keyD_sound hE hkd
          simp only [execOp, ho, hc, hd, Instr.lookup, Sem.run_bind, run_und hE hu, Result.andThen_ok, Sem.run_pure, check_sound hE hkd]
          simp [Instr.findKey, Sem.run_bind, run_und hE hu2, Instr.findNow, run_zero hE hz]
        · rename_i r hp
          split at he
          · rename_i es clk hg
            obtain ⟨p, hpp, es', hb, hers⟩ := hR.obj _ _ hg
            cases h1 with
            | map hp2 =>
              rw [hpp] at hp2; simp at hp2; subst hp2
              split at he
              · rename_i j u hf
                simp at he; obtain ⟨rfl, rfl⟩ := he
                rcases findKey_sound (P := P) hE hkd h2 hf hers w with ⟨h3, _⟩ | ⟨j', v1, v2, h3, h4, h5, _⟩
                · simp at h3
                · simp at h3; obtain ⟨rfl, rfl⟩ := h3
                  refine ⟨_, _, φ, w, ?_, .inl rfl, hput true h5, hR, Step.refl _ _ _⟩
                  simp only [execOp, ho, hc, hd, Instr.lookup, Sem.run_bind, run_und hE hu, Result.andThen_ok, Sem.run_pure, run_getMap hb, check_sound hE hkd, h4]
              · rename_i hf
                simp at he; obtain ⟨rfl, rfl⟩ := he
                rcases findKey_sound (P := P) hE hkd h2 hf hers w with ⟨_, h4⟩ | ⟨j', v1, v2, h3, _⟩
                · refine ⟨_, _, φ, w, ?_, .inl rfl, hput false (VR.plain φ hp), hR, Step.refl _ _ _⟩
                  simp only [execOp, ho, hc, hd, Instr.lookup, Sem.run_bind, run_und hE hu, Result.andThen_ok, Sem.run_pure, run_getMap hb, check_sound hE hkd, h4, run_zero hE hz]
                · simp at h3
              · simp at he
          · simp at he
        · simp at he
      · simp at he
    · simp at he
  case h_4 t X Y Z r k x => -- mapUpdate
    cases hr with | cons h1 hr' => ?_
    cases hr' with | cons h2 hr' => ?_
    cases hr' with | cons h3 _ => ?_
    generalize hc : ρ X = cv at h1
    generalize hd : ρ Y = dv at h2
    generalize hf : ρ Z = fv at h3
    split at he
    · rename_i kt el hu
      split at he
      · rename_i d es clk hkd hg
        obtain ⟨p, hpp, es', hb, hers⟩ := hR.obj _ _ hg
        cases h1 with
        | map hp2 =>
          rw [hpp] at hp2; simp at hp2; subst hp2
          split at he
          · rename_i j u hfi
            simp at he; obtain ⟨rfl, rfl⟩ := he
            rcases findKey_sound (P := P) hE hkd h2 hfi hers w with ⟨h4, _⟩ | ⟨j', v1, v2, h4, h5, h6, e', h7, h8⟩
            · simp at h4
            · simp at h4; obtain ⟨rfl, rfl⟩ := h4
              obtain ⟨g1, g2⟩ := hR.setMap (k1 := clk) (es1 := es.modify j fun e => { e with key := k, val := x }) (es1' := es'.modify j fun e => { e with key := dv, val := fv }) hg hpp hb (by
                simp only [Array.toList_modify]
                refine hers.modify _ _ ?_ j
                intro a b hab
                exact ⟨h2, h3, hab.2.2⟩)
              refine ⟨.skip, undef, φ, _, ?_, .inr ⟨rfl, rfl⟩, VR.undef, g1, g2⟩
              simp only [execOp, ho, hc, hd, hf, Instr.mapUpdate, Sem.run_bind, run_und hE hu, Result.andThen_ok, Sem.run_pure, run_getMap hb, check_sound hE hkd, h5, h7, Option.map_some, Option.getD_some, Instr.keyThatStays, h8, if_true, run_setMap _ hb]
          · rename_i hfi
            simp at he; obtain ⟨rfl, rfl⟩ := he
            rcases findKey_sound (P := P) hE hkd h2 hfi hers w with ⟨_, h5⟩ | ⟨j', v1, v2, h4, _⟩
            · obtain ⟨g1, g2⟩ := hR.setMap (k1 := clk + 1) (es1 := es ++ [{ key := k, val := x, born := clk }]) (es1' := es'.push { key := dv, val := fv, born := clk }) hg hpp hb (by
                simp only [Array.toList_push]
                exact hers.snoc ⟨h2, h3, rfl⟩)
              refine ⟨.skip, undef, φ, _, ?_, .inr ⟨rfl, rfl⟩, VR.undef, g1, g2⟩
              simp only [execOp, ho, hc, hd, hf, Instr.mapUpdate, Sem.run_bind, run_und hE hu, Result.andThen_ok, Sem.run_pure, run_getMap hb, check_sound hE hkd, h5, run_setMap _ hb]
            · simp at h4
          · simp at he
      · simp at he
    · simp at he
  case h_5 X r => -- next of a string
    cases hr with | cons h1 _ => ?_
    generalize hc : ρ X = cv at h1
    split at he
    · rename_i s pos hg
      obtain ⟨p, hpp, hb, hbase⟩ := hR.obj _ _ hg
      cases h1 with
      | ptr hp2 =>
        rw [hpp] at hp2; simp at hp2; subst hp2
        rw [hbase] at hc
        have hget : (getObj p.b).run P w = .ok (.stringIter s pos) w := by simp [getObj, Sem.run, hb]
        have hlt := (Array.getElem?_eq_some_iff.1 hb).1
        split at he
        · rename_i hps
          have hps := Nat.le_of_ble_eq_true hps
          simp at he; obtain ⟨rfl, rfl⟩ := he
          obtain ⟨g1, g2⟩ := hR.set (w' := { w with heap := w.heap.setIfInBounds p.b (.stringIter s (pos + (Utf8.decode s pos).2)) }) (y := .siter s (pos + (Utf8.decode s pos).2)) hg hpp ⟨by simp [hlt], hbase⟩ (by simp) (fun b hne => by simp only [Array.getElem?_setIfInBounds]; rw [if_neg (fun e => hne e.symm)]) rfl rfl rfl
          refine ⟨.value (.tuple #[.bool true, goInt pos, .int .i32 (Utf8.decode s pos).1]), _, φ, _, ?_, .inl rfl, .tuple (.cons (.bool _) (.cons (.int _ _) (.cons (.int _ _) .nil))), g1, g2⟩
          have hset : (setObj p.b (.stringIter s (pos + (Utf8.decode s pos).2))).run P w = .ok () { w with heap := w.heap.setIfInBounds p.b (.stringIter s (pos + (Utf8.decode s pos).2)) } := by simp [setObj, Sem.run, hb]
          simp only [execOp, ho, hc, Instr.next, Sem.run_bind, hget, Result.andThen_ok]
          rw [if_pos (by omega)]
          simp only [Sem.run_bind, hset, Result.andThen_ok, Sem.run_pure]
        · rename_i hps
          have hps : ¬ pos < s.size := fun h => by have : pos.blt s.size = true := Nat.ble_eq_true_of_le h; rw [this] at hps; simp at hps
          simp at he; obtain ⟨rfl, rfl⟩ := he
          refine ⟨.value (.tuple #[.bool false]), _, φ, w, ?_, .inl rfl, .tuple (.cons (.bool _) .nil), hR, Step.refl _ _ _⟩
          simp only [execOp, ho, hc, Instr.next, Sem.run_bind, hget, Result.andThen_ok]
          rw [if_neg hps]
          simp only [Sem.run_pure, Result.andThen_ok]
    · simp at he
  case h_6 args ts r => -- len of a map
    split at he
    · rename_i t rest hts
      have ht : ts[0]? = some t := by rw [← Array.getElem?_toList, hts]; rfl
      cases hc : args.toList with
      | nil => simp [opnds, hc] at hr; cases hr
      | cons X r' =>
      have hargs : args = ⟨X :: r'⟩ := by rw [← hc]
      subst hargs
      simp only [opnds, List.map_cons] at hr
      cases hr with | cons h1 hr' => ?_
      generalize hd : ρ X = dv at h1
      split at he
      · rename_i es clk hu hg
        simp at he; obtain ⟨rfl, rfl⟩ := he
        obtain ⟨p, hpp, es', hb, hers⟩ := hR.obj _ _ hg
        cases h1 with
        | map hp2 =>
          rw [hpp] at hp2; simp at hp2; subst hp2
          refine ⟨.value (goInt es.length), _, φ, w, ?_, .inl rfl, .int _ _, hR, Step.refl _ _ _⟩
          have hl : es'.size = es.length := by have := hers.length; simpa using this
          simp [execOp, ho, hd, resolve, invoke, builtin, Builtin.len_, ht, Sem.run_bind, run_und hE hu, run_getMap hb, hl]
      · simp at he
    · simp at he
  case h_7 args ts s x => -- append
    split at he
    · rename_i t u hts
      have hts' : ts = #[t, u] := by apply Array.ext'; exact hts
      subst hts'
      cases hc : args.toList with
      | nil => simp [opnds, hc] at hr; cases hr
      | cons X r' =>
      cases r' with
      | nil => simp [opnds, hc] at hr; cases hr with | cons _ t => cases t
      | cons Y r'' =>
      cases r'' with
      | cons Z r3 => simp [opnds, hc] at hr; cases hr with | cons _ t => cases t with | cons _ t => cases t
      | nil =>
      have hargs : args = #[X, Y] := by apply Array.ext'; exact hc
      subst hargs
      simp only [opnds, List.map_cons] at hr
      cases hr with | cons h1 hr' => ?_
      cases hr' with | cons h2 _ => ?_
      split at he
      · rename_i kk hu
        obtain ⟨k, φ', w', h3, h4, h5, h6⟩ := appendZ_sound (ty := O.type) hE hR he hu h1 h2
        refine ⟨.value k, k, φ', w', ?_, .inl rfl, h4, h5, h6⟩
        simp only [execOp, ho, resolve, Sem.run_bind, Sem.run_pure, Result.andThen_ok, invoke, builtin, List.map_toArray, List.map_cons, List.map_nil, h3]
      · rename_i d hd hu
        obtain ⟨k, φ', w', h3, h4, h5, h6⟩ := append_sound (ty := O.type) hE hR he hu (fun k e => hd k e) h1 h2
        refine ⟨.value k, k, φ', w', ?_, .inl rfl, h4, h5, h6⟩
        simp only [execOp, ho, resolve, Sem.run_bind, Sem.run_pure, Result.andThen_ok, invoke, builtin, List.map_toArray, List.map_cons, List.map_nil, h3]
      · simp at he
    · simp at he
  case h_8 args ts o off n c o' off' k c' => -- copy
    split at he
    · rename_i t rest hts
      have ht : ts[0]? = some t := by rw [← Array.getElem?_toList, hts]; rfl
      cases hc : args.toList with
      | nil => simp [opnds, hc] at hr; cases hr
      | cons X r' =>
      cases r' with
      | nil => simp [opnds, hc] at hr; cases hr with | cons _ t => cases t
      | cons Y r'' =>
      have hargs : args = ⟨X :: Y :: r''⟩ := by apply Array.ext'; exact hc
      subst hargs
      simp only [opnds, List.map_cons] at hr
      cases hr with | cons h1 hr' => ?_
      cases hr' with | cons h2 _ => ?_
      generalize hd : ρ X = dv at h1
      generalize hf : ρ Y = fv at h2
      split at he
      · rename_i el hu
        split at he
        · rename_i sz hsz
          split at he
          · rename_i l hl
            split at he
            · rename_i h'' hw
              simp at he; obtain ⟨rfl, rfl⟩ := he
              obtain ⟨p', m, hp', h3, h4, h5⟩ := rd_sound hR hl
              obtain ⟨p, hp, hst⟩ := wr_sound (P := P) hR hw
              obtain ⟨w', h6, h7, h8⟩ := hst _ h3
              cases h1 with
              | slc hq hs1 hn hx hb' =>
              rename_i x0 cap q
              rw [hp] at hq; simp at hq; subst hq
              cases h2 with
              | slc hq2 hs2 hn2 hx2 hb2 =>
              rename_i y0 cap2 q2
              rw [hp'] at hq2; simp at hq2; subst hq2
              refine ⟨.value (goInt (Nat.min k n)), _, φ, w', ?_, .inl rfl, .int _ _, h7, h8⟩
              have hml : m.length = Nat.min k n * sz := by rw [← h3.length]; exact h4
              have hfc : (Builtin.firstCells sz (Nat.min k n) (.slice (some ⟨p'.b, y0, none⟩) k cap2)).run P w = .ok ⟨m⟩ w := by
                rcases Nat.eq_zero_or_pos (Nat.min k n) with h0 | h0
                · rw [h0] at hml ⊢
                  simp at hml; subst hml
                  simp [Builtin.firstCells, loadCells, loadCellsFrom]
                · have hk : 1 ≤ k := Nat.le_trans h0 (Nat.min_le_left _ _)
                  have := hb2 hk
                  subst this
                  exact run_firstCells_some w sz _ _ _ _ m hml (fun j v hj => by rw [Addr.add_lit]; exact h5 j v hj)
              have hst' : (storeCells ⟨p.b, x0, none⟩ m).run P w = .ok () w' := by
                rcases Nat.eq_zero_or_pos n with h0 | h0
                · have : m = [] := by
                    subst h0
                    have h9 : Nat.min k 0 = 0 := Nat.min_zero k
                    rw [h9] at hml; simpa using hml
                  subst this
                  exact h6
                · rw [hb' h0]; exact h6
              simp only [execOp, ho, hd, hf, resolve, Sem.run_bind, Sem.run_pure, Result.andThen_ok, invoke, builtin, List.map_toArray, List.map_cons, Builtin.copy_, ht, List.getElem?_toArray, List.getElem?_cons_zero, List.getElem?_cons_succ, run_und hE hu, Builtin.lenOf, run_size hE hsz, hfc, hst']
            · simp at he
          · simp at he
        · simp at he
      · simp at he
    · simp at he
  case h_9 args ts r k => -- delete
    split at he
    · rename_i t rest hts
      have ht : ts[0]? = some t := by rw [← Array.getElem?_toList, hts]; rfl
      cases hc : args.toList with
      | nil => simp [opnds, hc] at hr; cases hr
      | cons X r' =>
      cases r' with
      | nil => simp [opnds, hc] at hr; cases hr with | cons _ t => cases t
      | cons Y r'' =>
      have hargs : args = ⟨X :: Y :: r''⟩ := by apply Array.ext'; exact hc
      subst hargs
      simp only [opnds, List.map_cons] at hr
      cases hr with | cons h1 hr' => ?_
      cases hr' with | cons h2 _ => ?_
      generalize hd : ρ X = dv at h1
      generalize hf : ρ Y = fv at h2
      split at he
      · rename_i kt el hu
        split at he
        · rename_i d es clk hkd hg
          obtain ⟨p, hpp, es', hb, hers⟩ := hR.obj _ _ hg
          cases h1 with
          | map hp2 =>
            rw [hpp] at hp2; simp at hp2; subst hp2
            split at he
            · rename_i j u hfi
              simp at he; obtain ⟨rfl, rfl⟩ := he
              rcases findKey_sound (P := P) hE hkd h2 hfi hers w with ⟨h4, _⟩ | ⟨j', v1, v2, h4, h5, h6, e', h7, h8⟩
              · simp at h4
              · simp at h4; obtain ⟨rfl, rfl⟩ := h4
                obtain ⟨g1, g2⟩ := hR.setMap (k1 := clk) (es1 := es.eraseIdx j) (es1' := es'.eraseIdxIfInBounds j) hg hpp hb (by
                  simp only [Array.toList_eraseIdxIfInBounds]
                  exact hers.erase j)
                refine ⟨.value (.tuple #[]), _, φ, _, ?_, .inl rfl, .tuple .nil, g1, g2⟩
                simp only [execOp, ho, hd, hf, resolve, Sem.run_bind, Sem.run_pure, Result.andThen_ok, invoke, builtin, List.map_toArray, List.map_cons, Builtin.delete_, ht, List.getElem?_toArray, List.getElem?_cons_zero, List.getElem?_cons_succ, run_und hE hu, run_getMap hb, check_sound hE hkd, h5, run_setMap _ hb]
            · rename_i hfi
              simp at he; obtain ⟨rfl, rfl⟩ := he
              rcases findKey_sound (P := P) hE hkd h2 hfi hers w with ⟨_, h5⟩ | ⟨j', v1, v2, h4, _⟩
              · obtain ⟨g1, g2⟩ := hR.setMap (k1 := clk) (es1 := es) (es1' := es') hg hpp hb hers
                refine ⟨.value (.tuple #[]), _, φ, _, ?_, .inl rfl, .tuple .nil, g1, g2⟩
                simp only [execOp, ho, hd, hf, resolve, Sem.run_bind, Sem.run_pure, Result.andThen_ok, invoke, builtin, List.map_toArray, List.map_cons, Builtin.delete_, ht, List.getElem?_toArray, List.getElem?_cons_zero, List.getElem?_cons_succ, run_und hE hu, run_getMap hb, check_sound hE hkd, h5, run_setMap _ hb]
              · simp at h4
            · simp at he
        · simp at he
      · simp at he
    · simp at he
  all_goals simp at he

end Go.Eng
end

section
namespace Go.Eng
variable {P : Program} {E : Env}

structure TR (φ : Pl) (a : Tmps) (ts : Array Value) : Prop where
  size : ts.size = a.n
  get : ∀ t v, a.m.get t = some v → ∃ y, ts[t]? = some y ∧ VR φ v y

theorem TR.mono {φ ψ : Pl} (e : Ext φ ψ) {a : Tmps} {ts : Array Value} (h : TR φ a ts) : TR ψ a ts :=
  ⟨h.size, fun t v hv => let ⟨y, h1, h2⟩ := h.get t v hv; ⟨y, h1, h2.mono e⟩⟩

theorem ev_sound {φ : Pl} {a : Tmps} {ts : Array Value} {ds : List Deferred} (hT : TR φ a ts) {x : Operand} {v : Value} (h : ev a x = some v) : VR φ v ((Act.mk ts ds).eval x) := by
  cases x with
  | tmp t =>
    obtain ⟨y, h1, h2⟩ := hT.get t v h
    simp only [Act.eval, Array.getD_eq_getD_getElem?, h1, Option.getD_some]
    exact h2
  | const c =>
    simp only [ev] at h
    split at h
    · rename_i hp; simp at h; subst h; exact VR.plain φ hp
    · simp at h
  | global g => simp [ev] at h
  | func f => simp [ev] at h; subst h; exact .func f .nil .nil

theorem evs_sound {φ : Pl} {a : Tmps} {ts : Array Value} {ds : List Deferred} (hT : TR φ a ts) : ∀ {xs : List Operand} {vs : List Value}, evs a xs = some vs → VRs φ vs (xs.map (Act.mk ts ds).eval)
  | [], vs, h => by simp [evs] at h; subst h; exact .nil
  | x :: xs, vs, h => by
    simp only [evs] at h
    split at h
    · rename_i v l hv hl
      simp at h; subst h
      exact .cons (ev_sound hT hv) (evs_sound hT hl)
    · simp at h

theorem putT_sound {φ : Pl} {a a' : Tmps} {ts : Array Value} {ds : List Deferred} (hT : TR φ a ts) {d : Option Tmp} {v c : Value} (h : putT a d v = some a') (hv : VR φ v c) :
    ∃ ts', (Act.mk ts ds).put d c = ⟨ts', ds⟩ ∧ TR φ a' ts' := by
  cases d with
  | none => simp [putT] at h; subst h; exact ⟨ts, rfl, hT⟩
  | some d =>
    simp only [putT] at h
    split at h
    · rename_i hlt
      have hlt := Nat.le_of_ble_eq_true hlt
      simp at h; subst h
      refine ⟨ts.setIfInBounds d c, rfl, by simp [hT.size], fun t u hu => ?_⟩
      simp only [Tr.get_set] at hu
      by_cases e : t = d
      · subst e
        rw [if_pos rfl] at hu; simp at hu; subst hu
        exact ⟨c, by rw [Array.getElem?_setIfInBounds, if_pos rfl, if_pos (by have := hT.size; omega)], hv⟩
      · rw [if_neg e] at hu
        obtain ⟨y, h1, h2⟩ := hT.get t u hu
        exact ⟨y, by rw [Array.getElem?_setIfInBounds_ne (by omega)]; exact h1, h2⟩
    · simp at h

theorem wanted_sound {φ : Pl} {a : Tmps} {ts : Array Value} (hT : TR φ a ts) {o : Oper} {ops : Array Oper} {b : Bool} (h : wantedA o.guard ops.toList a = some b) : Region.wanted o (yielded ops ts) = b := by
  unfold wantedA at h
  unfold Region.wanted
  split at h
  · rename_i hg; simp at h; subst h; simp [hg]
  · rename_i j want hg
    simp only [hg]
    split at h
    · rename_i oj hoj
      split at h
      · rename_i d hd
        have hj : ops[j]? = some oj := by simpa using hoj
        split at h
        · rename_i q hq
          obtain ⟨y, h1, h2⟩ := hT.get _ _ hq
          cases h2
          simp at h; subst h
          simp [yielded, hj, hd, h1]
        · rename_i l hq
          obtain ⟨y, h1, h2⟩ := hT.get _ _ hq
          cases h2 with
          | tuple h2 =>
            split at h
            · rename_i hl
              simp at h; subst h
              subst hl
              cases h2
              simp [yielded, hj, hd, h1]
            · simp at h
        · simp at h
      · simp at h
    · simp at h

/-- a call's function does what the abstract one does -/
def CallsOK (P : Program) (call : CallF) : Prop :=
  ∀ f vs h v h', call f vs h = some (v, h') → ∀ φ w cs, Rel h φ w → VRs φ vs cs →
    (∃ c φ' w', (callFunc f cs.toArray).run P w = .ok (.value c) w' ∧ VR φ' v c ∧ Rel h' φ' w' ∧ Step h φ w h' φ' w') ∨
    ((callFunc f cs.toArray).run P w = .ok (.enter f cs.toArray) w ∧
      Calls P f cs.toArray w fun e w' => ∃ c φ', e = .returned c ∧ VR φ' v c ∧ Rel h' φ' w' ∧ Step h φ w h' φ' w')

/-- what one operation comes to, behind which K is asked -/
def Does (P : Program) (s : Sem Next) (w : World) (K : Value → World → Prop) : Prop :=
  (∃ nx c w', s.run P w = .ok nx w' ∧ (nx = .value c ∨ (nx = .skip ∧ c = undef)) ∧ K c w') ∨
  (∃ f args, s.run P w = .ok (.enter f args) w ∧ Calls P f args w fun e w' => ∃ c, e = .returned c ∧ K c w')

theorem Does.wp {o : Oper} {a : Act} {w : World} {K : Act → World → Prop} {Q : Exit → Act → World → Prop} (h : Does P (execOp a.eval o) w fun c w' => K (a.put o.dst c) w') : o.wp P a w K Q := by
  unfold Oper.wp
  rcases h with ⟨nx, c, w', h1, h2, h3⟩ | ⟨f, args, h1, h2⟩
  · rw [h1]
    rcases h2 with rfl | ⟨rfl, rfl⟩
    · exact h3
    · exact h3
  · rw [h1]
    refine Calls.mono h2 ?_
    rintro e w' ⟨c, rfl, hK⟩
    exact hK

theorem Does.mono {s : Sem Next} {w : World} {K K' : Value → World → Prop} (h : Does P s w K) (hk : ∀ c w, K c w → K' c w) : Does P s w K' := by
  rcases h with ⟨nx, c, w', h1, h2, h3⟩ | ⟨f, args, h1, h2⟩
  · exact .inl ⟨nx, c, w', h1, h2, hk _ _ h3⟩
  · exact .inr ⟨f, args, h1, h2.mono fun e w' ⟨c, he, hc⟩ => ⟨c, he, hk _ _ hc⟩⟩

theorem opA_sound (hE : EnvOK P E) {call : CallF} (hC : CallsOK P call) {h h' : H} {φ : Pl} {w : World} (hR : Rel h φ w) {O : Oper} {vs : List Value} {v : Value} (he : opA E call O.op vs h = some (v, h')) {ρ : Operand → Value} (hr : VRs φ vs ((opnds O.op).map ρ)) :
    Does P (execOp ρ O) w fun c w' => ∃ φ', VR φ' v c ∧ Rel h' φ' w' ∧ Step h φ w h' φ' w' := by
  unfold opA at he
  split at he
  · -- pure
    split at he
    · rename_i v' hp
      simp at he; obtain ⟨rfl, rfl⟩ := he
      obtain ⟨c, h1, h2⟩ := pureA_sound hE hp hr rfl w
      exact .inl ⟨_, c, w, h1, .inl rfl, φ, h2, hR, Step.refl _ _ _⟩
    · simp at he
  · -- new
    split at he
    · rename_i x k hp
      simp at he; obtain ⟨rfl, rfl⟩ := he
      obtain ⟨obj, sz, c, _, h1, h2⟩ := newA_sound hE hp hr rfl
      have hn : φ h.next = none := hR.fresh _ (Nat.le_refl _)
      obtain ⟨h3, h4⟩ := h2 (φ.add h.next ⟨w.heap.size, 0, sz⟩) h.next { w with heap := w.heap.push obj } w.heap.size (Pl.add_ext _ hn) (Pl.add_self _ _ _) (by simp)
      obtain ⟨r1, r2⟩ := hR.new obj x 0 sz h3
      exact .inl ⟨_, c w.heap.size, _, h1 w, .inl rfl, _, h4, r1, r2⟩
    · simp at he
  · -- load
    split at he
    · rename_i t X p hop
      split at he
      · rename_i v' hl
        simp at he; obtain ⟨rfl, rfl⟩ := he
        rw [hop] at hr
        cases hr with | cons h1 _ => ?_
        obtain ⟨k, h2, h3⟩ := loadA_sound hE hR hl h1 hop
        exact .inl ⟨_, k, w, h2, .inl rfl, φ, h3, hR, Step.refl _ _ _⟩
      · simp at he
    · simp at he
  · -- effects
    split at he
    · rename_i F args ts f fi ca as hop
      rw [hop] at hr
      simp only [opnds, List.map_cons] at hr
      cases hr with | cons h1 h2 => ?_
      generalize hc : ρ F = cv at h1
      cases h1 with
      | func _ h3 h4 =>
        rename_i xs ys as' bs'
        have hrun : ∀ w, (execOp ρ O).run P w = (callFunc f (ys ++ args.toList.map ρ ++ bs').toArray).run P w := by
          intro w
          simp only [execOp, hop, resolve, hc, Deferred.ofValue, Sem.run_bind, Sem.run_pure, Result.andThen_ok, invoke]
          congr 2
          apply Array.ext'
          simp
        rcases hC _ _ _ _ _ he φ w _ hR ((h3.append h2).append h4) with ⟨c, φ', w', g1, g2, g3, g4⟩ | ⟨g1, g2⟩
        · exact .inl ⟨_, c, w', by rw [hrun, g1], .inl rfl, φ', g2, g3, g4⟩
        · exact .inr ⟨f, _, by rw [hrun, g1], g2.mono fun e w' ⟨c, φ', e1, e2⟩ => ⟨c, e1, φ', e2⟩⟩
    · obtain ⟨nx, c, φ', w', g1, g2, g3, g4, g5⟩ := effA_sound hE hR he hr rfl
      exact .inl ⟨nx, c, w', g1, g2, φ', g3, g4, g5⟩

theorem oneA_sound (hE : EnvOK P E) {call : CallF} (hC : CallsOK P call) {h h' : H} {φ : Pl} {w : World} (hR : Rel h φ w) {a a' : Tmps} {ts : Array Value} (hT : TR φ a ts) {ops : Array Oper} {o : Oper}
    (he : oneA E call ops.toList o a h = some (a', h')) {K : Act → World → Prop} {Q : Exit → Act → World → Prop} (hK : ∀ φ' ts' w', Rel h' φ' w' → TR φ' a' ts' → Step h φ w h' φ' w' → K ⟨ts', []⟩ w') :
    if Region.wanted o (yielded ops ts) then o.wp P ⟨ts, []⟩ w K Q else K ((Act.mk ts []).put o.dst undef) w := by
  unfold oneA at he
  split at he
  · rename_i hw
    rw [if_pos (wanted_sound hT hw)]
    split at he
    · rename_i vs hvs
      split at he
      · rename_i v h'' hop
        split at he
        · rename_i a'' hput
          simp at he; obtain ⟨rfl, rfl⟩ := he
          refine Does.wp ((opA_sound hE hC hR hop (evs_sound hT hvs)).mono ?_)
          rintro c w' ⟨φ', g1, g2, g3⟩
          obtain ⟨ts', g4, g5⟩ := putT_sound (ds := []) (hT.mono g3.ext) hput g1
          rw [g4]
          exact hK φ' ts' w' g2 g5 g3
        · simp at he
      · simp at he
    · simp at he
  · rename_i hw
    rw [if_neg (by rw [wanted_sound hT hw]; simp)]
    split at he
    · rename_i a'' hput
      simp at he; obtain ⟨rfl, rfl⟩ := he
      obtain ⟨ts', g4, g5⟩ := putT_sound (ds := []) hT hput VR.undef
      rw [g4]
      exact hK φ ts' w hR g5 (Step.refl _ _ _)
    · simp at he
  · simp at he

theorem opsA_sound (hE : EnvOK P E) {call : CallF} (hC : CallsOK P call) {ops : Array Oper} {Q : Exit → Act → World → Prop} : ∀ (l : List Oper) {h h' : H} {φ : Pl} {w : World} (_ : Rel h φ w) {a a' : Tmps} {ts : Array Value} (_ : TR φ a ts)
    (_ : opsA E call ops.toList l a h = some (a', h')) (_ : ∀ φ' ts' w', Rel h' φ' w' → TR φ' a' ts' → Step h φ w h' φ' w' → Q .normal ⟨ts', []⟩ w'), wpList P ops Q l ⟨ts, []⟩ w
  | [], h, h', φ, w, hR, a, a', ts, hT, he, hQ => by
    simp [opsA] at he; obtain ⟨rfl, rfl⟩ := he
    exact wpList_nil (hQ φ ts w hR hT (Step.refl _ _ _))
  | o :: l, h, h', φ, w, hR, a, a', ts, hT, he, hQ => by
    simp only [opsA] at he
    split at he
    · rename_i a1 h1 hone
      refine wpList_step fun K hK => ?_
      refine oneA_sound hE hC hR hT hone fun φ' ts' w' g1 g2 g3 => hK _ _ ?_
      exact opsA_sound hE hC l g1 g2 he fun φ2 ts2 w2 k1 k2 k3 => hQ φ2 ts2 w2 k1 k2 (g3.trans k3)
    · simp at he

end Go.Eng
end

section
namespace Go.Eng
variable {P : Program} {E : Env}

/-! ### Who is ahead of whom -/
theorem maskE_spec {bs : List Nat} {j : Nat} : ∀ {es : List Edge}, (maskE bs es).testBit j = true → ∃ e ∈ es, Region.binds .any e = true ∧ (e.on = j ∨ (bs.getD e.on 0).testBit j = true)
  | [], h => by simp [maskE] at h
  | e :: es, h => by
    simp only [maskE] at h
    split at h
    · rename_i hb
      have h : ((2 ^ e.on ||| bs.getD e.on 0) ||| maskE bs es).testBit j = true := h
      rw [Nat.testBit_or, Nat.testBit_or, Bool.or_eq_true, Bool.or_eq_true] at h
      rcases h with (h | h) | h
      · rw [Nat.testBit_two_pow] at h
        exact ⟨e, List.mem_cons_self, hb, .inl (by simpa using h)⟩
      · exact ⟨e, List.mem_cons_self, hb, .inr h⟩
      · obtain ⟨e', h1, h2⟩ := maskE_spec h
        exact ⟨e', List.mem_cons_of_mem _ h1, h2⟩
    · obtain ⟨e', h1, h2⟩ := maskE_spec h
      exact ⟨e', List.mem_cons_of_mem _ h1, h2⟩

theorem preds_spec : ∀ (l : List Oper) (bs : List Nat), (preds bs l).length = bs.length + l.length ∧ (preds bs l).take bs.length = bs ∧
    ∀ i o, l[i]? = some o → (preds bs l)[bs.length + i]? = some (maskE ((preds bs l).take (bs.length + i)) o.after.toList)
  | [], bs => by simp [preds]
  | o :: l, bs => by
    obtain ⟨h1, h2, h3⟩ := preds_spec l (bs ++ [maskE bs o.after.toList])
    simp only [preds]
    have h4 : (preds (bs ++ [maskE bs o.after.toList]) l).take bs.length = bs := by
      have := congrArg (List.take bs.length) h2
      simpa [List.take_take] using this
    refine ⟨by simp at h1; simp; omega, h4, ?_⟩
    intro i o' hi
    cases i with
    | zero =>
      simp at hi; subst hi
      simp only [Nat.add_zero, h4]
      have h5 : ((preds (bs ++ [maskE bs o.after.toList]) l).take (bs.length + 1))[bs.length]? = (bs ++ [maskE bs o.after.toList])[bs.length]? := by
        have : bs.length + 1 = (bs ++ [maskE bs o.after.toList]).length := by simp
        rw [this, h2]
      rw [List.getElem?_take, if_pos (by omega)] at h5
      rw [h5]; simp
    | succ i =>
      have := h3 i o' (by simpa using hi)
      simp only [List.length_append, List.length_cons, List.length_nil, Nat.zero_add] at this
      rw [show bs.length + (i + 1) = bs.length + 1 + i from by omega]
      exact this

theorem preds_get {all : List Oper} {k : Nat} {o : Oper} (h : all[k]? = some o) : (preds [] all)[k]? = some (maskE ((preds [] all).take k) o.after.toList) := by
  have := (preds_spec all []).2.2 k o h
  simpa using this

theorem getD_take_lt {l : List Nat} {k i j : Nat} (h : ((l.take k).getD i 0).testBit j = true) : i < k ∧ (l.getD i 0).testBit j = true := by
  rw [List.getD_eq_getElem?_getD, List.getElem?_take] at h
  split at h
  · rename_i hi; exact ⟨hi, by rw [List.getD_eq_getElem?_getD]; exact h⟩
  · simp at h

/-- closed under what is directly ahead, so closed under all that is ahead -/
theorem closed_preds {all : List Oper} {X : Nat → Bool} (hc : ∀ k o, X k = true → all[k]? = some o → ∀ e ∈ o.after.toList, Region.binds .any e = true → X e.on = true) (hlt : ∀ k, X k = true → k < all.length) :
    ∀ k, X k = true → ∀ j, ((preds [] all).getD k 0).testBit j = true → X j = true := by
  intro k
  induction k using Nat.strongRecOn with
  | _ k ih =>
    intro hk j hj
    obtain ⟨o, ho⟩ : ∃ o, all[k]? = some o := ⟨_, List.getElem?_eq_getElem (hlt k hk)⟩
    rw [List.getD_eq_getElem?_getD, preds_get ho] at hj
    obtain ⟨e, he, hb, h | h⟩ := maskE_spec hj
    · subst h; exact hc k o hk ho e he hb
    · obtain ⟨h1, h2⟩ := getD_take_lt h
      exact ih _ h1 (hc k o hk ho e he hb) j h2

theorem ready_preds {all : List Oper} {X : Nat → Bool} (hc : ∀ k o, X k = true → all[k]? = some o → ∀ e ∈ o.after.toList, Region.binds .any e = true → X e.on = true) (hlt : ∀ k, X k = true → k < all.length)
    {i : Nat} {o : Oper} (ho : all[i]? = some o) (hr : ∀ e ∈ o.after.toList, Region.binds .any e = true → X e.on = true) : ∀ j, ((preds [] all).getD i 0).testBit j = true → X j = true := by
  intro j hj
  rw [List.getD_eq_getElem?_getD, preds_get ho] at hj
  obtain ⟨e, he, hb, h | h⟩ := maskE_spec hj
  · subst h; exact hr e he hb
  · obtain ⟨_, h2⟩ := getD_take_lt h
    exact closed_preds hc hlt _ (hr e he hb) j h2

/-! ### The looks at a region -/
theorem ordOk_spec {bs : List Nat} {k : Nat} {ak : Bool} {bk : Nat} {ts : List Nat} : ∀ {l : List Oper} {j0 : Nat}, ordOk E bs k ak bk ts l j0 = true → ∀ i o d, l[i]? = some o → o.dst = some d → d ∈ ts →
    (j0 + i = k ∧ ak = true) ∨ (j0 + i ≠ k ∧ bk.testBit (j0 + i) = true) ∨ (j0 + i ≠ k ∧ anch E o = true ∧ (bs.getD (j0 + i) 0).testBit k = true)
  | [], j0, _, i, o, d, hi, _, _ => by simp at hi
  | q :: l, j0, h, i, o, d, hi, hd, hm => by
    have next : ordOk E bs k ak bk ts l (j0 + 1) = true → ∀ i', i = i' + 1 → (j0 + i = k ∧ ak = true) ∨ (j0 + i ≠ k ∧ bk.testBit (j0 + i) = true) ∨ (j0 + i ≠ k ∧ anch E o = true ∧ (bs.getD (j0 + i) 0).testBit k = true) := fun h' i' hi' => by
      subst hi'
      have := ordOk_spec h' i' o d (by simpa using hi) hd hm
      rw [show j0 + (i' + 1) = j0 + 1 + i' from by omega]
      exact this
    simp only [ordOk] at h
    cases i with
    | zero =>
      simp at hi; subst hi
      rw [hd] at h
      simp only [List.contains_iff_mem.2 hm] at h
      split at h
      · rename_i hb
        have hb := Nat.eq_of_beq_eq_true hb
        split at h
        · exact .inl ⟨by omega, rfl⟩
        · simp at h
      · rename_i hb
        have hb : j0 ≠ k := fun e => by subst e; simp at hb
        split at h
        · rename_i ht; exact .inr (.inl ⟨by omega, by simpa using ht⟩)
        · split at h
          · rename_i h1 h2; exact .inr (.inr ⟨by omega, h1, by simpa using h2⟩)
          · simp at h
    | succ i =>
      split at h
      · exact next h i rfl
      · split at h
        · exact next h i rfl
        · split at h
          · split at h
            · exact next h i rfl
            · simp at h
          · split at h
            · exact next h i rfl
            · split at h
              · exact next h i rfl
              · simp at h

theorem okR_spec {all : List Oper} {bs : List Nat} : ∀ {l : List Oper} {k0 : Nat}, okR E all bs l k0 = true →
    (∀ i o, l[i]? = some o → ordOk E bs (k0 + i) (anch E o) (bs.getD (k0 + i) 0) (readsT all o) all 0 = true) ∧
    (∀ (i j : Nat) (o o' : Oper) (d : Tmp), i < j → l[i]? = some o → l[j]? = some o' → o.dst = some d → o'.dst ≠ some d)
  | [], k0, _ => by simp
  | q :: l, k0, h => by
    simp only [okR] at h
    split at h
    · rename_i h1 h2
      obtain ⟨h3, h4⟩ := okR_spec h
      refine ⟨fun i o hi => ?_, fun i j o o' d hij hi hj hd hd' => ?_⟩
      · cases i with
        | zero => simp at hi; subst hi; exact h1
        | succ i => rw [show k0 + (i + 1) = k0 + 1 + i from by omega]; exact h3 i o (by simpa using hi)
      · cases j with
        | zero => omega
        | succ j =>
          cases i with
          | zero =>
            simp at hi hj; subst hi
            rw [hd] at h2
            simp only at h2
            have := List.all_eq_true.1 h2 o' (List.mem_of_getElem? hj)
            rw [hd'] at this
            simp at this
          | succ i => exact h4 i j o o' d (by omega) (by simpa using hi) (by simpa using hj) hd hd'
    · simp at h

/-! ### The canonical way -/
theorem land_sub {b d : Nat} (h : Nat.beq (Nat.land b d) b = true) (j : Nat) (hj : b.testBit j = true) : d.testBit j = true := by
  have h : b &&& d = b := Nat.eq_of_beq_eq_true h
  rw [← h, Nat.testBit_and, Bool.and_eq_true] at hj
  exact hj.2

theorem done_bit (d i j : Nat) : (Nat.lor d (Nat.pow 2 i)).testBit j = (d.testBit j || decide (i = j)) := by
  show (d ||| 2 ^ i).testBit j = _
  rw [Nat.testBit_or, Nat.testBit_two_pow]

structure StepD (E : Env) (call : CallF) (all : List Oper) (bs : List Nat) (i : Nat) (s s' : DS) (o : Oper) (b : Nat) : Prop where
  op : all[i]? = some o
  mask : bs[i]? = some b
  sub : ∀ j, b.testBit j = true → s.done.testBit j = true
  new : s.done.testBit i = false
  one : oneA E call all o s.a s.h = some (s'.a, s'.h)
  done : s'.done = Nat.lor s.done (Nat.pow 2 i)
  anc : anch E o = true → (∀ j, s.done.testBit j = true → b.testBit j = true) ∧ s'.hist = (i, s'.h) :: s.hist
  flt : anch E o = false → stableD E all o b s = true ∧ s'.hist = s.hist

theorem stepD_spec {call : CallF} {all : List Oper} {bs : List Nat} {i : Nat} {s s' : DS} (h : stepD E call all bs i s = some s') : ∃ o b, StepD E call all bs i s s' o b := by
  unfold stepD at h
  split at h
  · rename_i o b ho hb
    split at h
    · rename_i h1 h2
      split at h
      · rename_i ha
        split at h
        · rename_i h3
          split at h
          · rename_i a' h' hone
            simp at h; subst h
            exact ⟨o, b, ho, hb, land_sub h1, h2, hone, rfl, fun _ => ⟨land_sub h3, rfl⟩, fun hf => by rw [ha] at hf; simp at hf⟩
          · simp at h
        · simp at h
      · rename_i ha
        split at h
        · rename_i h3
          split at h
          · rename_i a' h' hone
            simp at h; subst h
            exact ⟨o, b, ho, hb, land_sub h1, h2, hone, rfl, fun hf => by rw [ha] at hf; simp at hf, fun _ => ⟨h3, rfl⟩⟩
          · simp at h
        · simp at h
    · simp at h
  · simp at h

theorem goD_cons {call : CallF} {all : List Oper} {bs : List Nat} {i : Nat} {r : List Nat} {s sf : DS} (h : goD E call all bs (i :: r) s = some sf) : ∃ s', stepD E call all bs i s = some s' ∧ goD E call all bs r s' = some sf := by
  simp only [goD] at h
  split at h
  · rename_i s' hs; exact ⟨s', hs, h⟩
  · simp at h

theorem goD_append {call : CallF} {all : List Oper} {bs : List Nat} : ∀ {r1 : List Nat} {r2 : List Nat} {s sf : DS}, goD E call all bs (r1 ++ r2) s = some sf → ∃ s', goD E call all bs r1 s = some s' ∧ goD E call all bs r2 s' = some sf
  | [], r2, s, sf, h => ⟨s, rfl, h⟩
  | i :: r1, r2, s, sf, h => by
    obtain ⟨s1, h1, h2⟩ := goD_cons h
    obtain ⟨s2, h3, h4⟩ := goD_append h2
    exact ⟨s2, by simp [goD, h1, h3], h4⟩

theorem goD_trans {call : CallF} {all : List Oper} {bs : List Nat} : ∀ {r1 r2 : List Nat} {s s' : DS}, goD E call all bs r1 s = some s' → goD E call all bs (r1 ++ r2) s = goD E call all bs r2 s'
  | [], r2, s, s', h => by simp [goD] at h; subst h; rfl
  | i :: r1, r2, s, s', h => by
    obtain ⟨s1, h1, h2⟩ := goD_cons h
    simp only [List.cons_append, goD, h1]
    exact goD_trans h2

/-- what is done at the end was done, or is on the way -/
theorem goD_done {call : CallF} {all : List Oper} {bs : List Nat} : ∀ {r : List Nat} {s sf : DS}, goD E call all bs r s = some sf → ∀ i, sf.done.testBit i = true → s.done.testBit i = true ∨ i ∈ r
  | [], s, sf, h, i, hi => by simp [goD] at h; subst h; exact .inl hi
  | k :: r, s, sf, h, i, hi => by
    obtain ⟨s1, h1, h2⟩ := goD_cons h
    obtain ⟨o, b, hs⟩ := stepD_spec h1
    rcases goD_done h2 i hi with h3 | h3
    · rw [hs.done, done_bit, Bool.or_eq_true] at h3
      rcases h3 with h3 | h3
      · exact .inl h3
      · exact .inr (by simp at h3; simp [h3])
    · exact .inr (List.mem_cons_of_mem _ h3)

theorem goD_keep {call : CallF} {all : List Oper} {bs : List Nat} : ∀ {r : List Nat} {s sf : DS}, goD E call all bs r s = some sf → ∀ i, s.done.testBit i = true → sf.done.testBit i = true ∧ i ∉ r
  | [], s, sf, h, i, hi => by simp [goD] at h; subst h; exact ⟨hi, by simp⟩
  | k :: r, s, sf, h, i, hi => by
    obtain ⟨s1, h1, h2⟩ := goD_cons h
    obtain ⟨o, b, hs⟩ := stepD_spec h1
    have : s1.done.testBit i = true := by rw [hs.done, done_bit, hi]; rfl
    obtain ⟨h3, h4⟩ := goD_keep h2 i this
    refine ⟨h3, fun hm => ?_⟩
    rcases List.mem_cons.1 hm with e | e
    · subst e; rw [hs.new] at hi; simp at hi
    · exact h4 e

theorem putT_n {a a' : Tmps} {d : Option Tmp} {v : Value} (h : putT a d v = some a') : a'.n = a.n ∧ (∀ t, d = some t → t < a.n ∧ a'.m.get t = some v) ∧ ∀ t, d ≠ some t → a'.m.get t = a.m.get t := by
  cases d with
  | none => simp [putT] at h; subst h; simp
  | some d =>
    simp only [putT] at h
    split at h
    · rename_i hlt
      have hlt := Nat.le_of_ble_eq_true hlt
      simp at h; subst h
      refine ⟨rfl, fun t ht => ?_, fun t ht => ?_⟩
      · simp at ht; subst ht; exact ⟨hlt, by simp [Tr.get_set]⟩
      · simp only [Tr.get_set]; rw [if_neg (fun e => ht (by rw [e]))]
    · simp at h

/-- one operation, taken apart -/
theorem oneA_cases {call : CallF} {all : List Oper} {o : Oper} {a a' : Tmps} {h h' : H} (he : oneA E call all o a h = some (a', h')) :
    (∃ vs v, wantedA o.guard all a = some true ∧ evs a (opnds o.op) = some vs ∧ opA E call o.op vs h = some (v, h') ∧ putT a o.dst v = some a') ∨
    (wantedA o.guard all a = some false ∧ h' = h ∧ putT a o.dst undef = some a') := by
  unfold oneA at he
  split at he
  · rename_i hw
    split at he
    · rename_i vs hvs
      split at he
      · rename_i v h'' hop
        split at he
        · rename_i a'' hput
          simp at he; obtain ⟨rfl, rfl⟩ := he
          exact .inl ⟨vs, v, hw, hvs, hop, hput⟩
        · simp at he
      · simp at he
    · simp at he
  · rename_i hw
    split at he
    · rename_i a'' hput
      simp at he; obtain ⟨rfl, rfl⟩ := he
      exact .inr ⟨hw, rfl, hput⟩
    · simp at he
  · simp at he

end Go.Eng
end

section
namespace Go.Eng
variable {P : Program} {E : Env}

/-! ### The heap grows -/
def CallMono (call : CallF) : Prop := ∀ f vs h v h', call f vs h = some (v, h') → h.next ≤ h'.next

theorem wr_next {h h' : H} {o off : Nat} {ys : List Value} (hw : wr h o off ys = some h') : h'.next = h.next := by
  unfold wr at hw
  split at hw
  · split at hw
    · simp at hw; subst hw; rfl
    · simp at hw
  · simp at hw

theorem append_next {t : TypeId} {s x v : Value} {h h' : H} (ha : appendA E t s x h = some (v, h')) : h.next ≤ h'.next := by
  unfold appendA at ha
  repeat' (split at ha)
  all_goals first
    | (simp at ha; done)
    | (simp at ha; obtain ⟨_, rfl⟩ := ha; first | exact Nat.le_refl _ | exact Nat.le_succ _)

theorem appendZ_next {t : TypeId} {s x v : Value} {h h' : H} (ha : appendZ E t s x h = some (v, h')) : h.next ≤ h'.next := by
  unfold appendZ at ha
  repeat' (split at ha)
  all_goals first
    | (simp at ha; done)
    | (simp at ha; obtain ⟨_, rfl⟩ := ha; first | exact Nat.le_refl _ | exact Nat.le_succ _)

theorem eff_next {op : Op} {vs : List Value} {v : Value} {h h' : H} (he : effA E op vs h = some (v, h')) : h.next ≤ h'.next := by
  unfold effA at he
  split at he
  case h_7 =>
    split at he
    · split at he
      · exact appendZ_next he
      · exact append_next he
      · simp at he
    · simp at he
  all_goals
    repeat' (split at he)
    all_goals first
      | (simp at he; done)
      | (simp at he; obtain ⟨_, rfl⟩ := he; exact Nat.le_refl _)
      | (rename_i hw; simp at he; obtain ⟨_, rfl⟩ := he; rw [wr_next hw]; exact Nat.le_refl _)
      | (rename_i hw; simp at he; obtain ⟨_, rfl⟩ := he; rw [wr_next (by assumption)]; exact Nat.le_refl _)

theorem opA_next {call : CallF} (hM : CallMono call) {op : Op} {vs : List Value} {v : Value} {h h' : H} (he : opA E call op vs h = some (v, h')) : h.next ≤ h'.next := by
  unfold opA at he
  split at he
  · split at he
    · simp at he; obtain ⟨_, rfl⟩ := he; exact Nat.le_refl _
    · simp at he
  · split at he
    · simp at he; obtain ⟨_, rfl⟩ := he; exact Nat.le_succ _
    · simp at he
  · split at he
    · split at he
      · simp at he; obtain ⟨_, rfl⟩ := he; exact Nat.le_refl _
      · simp at he
    · simp at he
  · split at he
    · exact hM _ _ _ _ _ he
    · exact eff_next he

theorem oneA_next {call : CallF} (hM : CallMono call) {all : List Oper} {o : Oper} {a a' : Tmps} {h h' : H} (he : oneA E call all o a h = some (a', h')) : h.next ≤ h'.next := by
  rcases oneA_cases he with ⟨vs, v, _, _, h3, _⟩ | ⟨_, rfl, _⟩
  · exact opA_next hM h3
  · exact Nat.le_refl _

theorem goD_next {call : CallF} (hM : CallMono call) {all : List Oper} {bs : List Nat} : ∀ {r : List Nat} {s sf : DS}, goD E call all bs r s = some sf → s.h.next ≤ sf.h.next
  | [], s, sf, h => by simp [goD] at h; subst h; exact Nat.le_refl _
  | k :: r, s, sf, h => by
    obtain ⟨s1, h1, h2⟩ := goD_cons h
    obtain ⟨o, b, hs⟩ := stepD_spec h1
    exact Nat.le_trans (oneA_next hM hs.one) (goD_next hM h2)

theorem oneA_n {call : CallF} {all : List Oper} {o : Oper} {a a' : Tmps} {h h' : H} (he : oneA E call all o a h = some (a', h')) : a'.n = a.n ∧ (∀ t, o.dst = some t → t < a.n) ∧ ∀ t, o.dst ≠ some t → a'.m.get t = a.m.get t := by
  rcases oneA_cases he with ⟨vs, v, _, _, _, h4⟩ | ⟨_, _, h4⟩
  · obtain ⟨h5, h6, h7⟩ := putT_n h4; exact ⟨h5, fun t ht => (h6 t ht).1, h7⟩
  · obtain ⟨h5, h6, h7⟩ := putT_n h4; exact ⟨h5, fun t ht => (h6 t ht).1, h7⟩

theorem goD_n {call : CallF} {all : List Oper} {bs : List Nat} : ∀ {r : List Nat} {s sf : DS}, goD E call all bs r s = some sf → sf.a.n = s.a.n
  | [], s, sf, h => by simp [goD] at h; subst h; rfl
  | k :: r, s, sf, h => by
    obtain ⟨s1, h1, h2⟩ := goD_cons h
    obtain ⟨o, b, hs⟩ := stepD_spec h1
    rw [goD_n h2, (oneA_n hs.one).1]

/-- a temporary that nobody on the way writes stays -/
theorem goD_stay {call : CallF} {all : List Oper} {bs : List Nat} {t : Tmp} : ∀ {r : List Nat} {s sf : DS}, goD E call all bs r s = some sf → (∀ j o, j ∈ r → all[j]? = some o → o.dst ≠ some t) → sf.a.m.get t = s.a.m.get t
  | [], s, sf, h, _ => by simp [goD] at h; subst h; rfl
  | k :: r, s, sf, h, hr => by
    obtain ⟨s1, h1, h2⟩ := goD_cons h
    obtain ⟨o, b, hs⟩ := stepD_spec h1
    rw [goD_stay h2 fun j o hj => hr j o (List.mem_cons_of_mem _ hj), (oneA_n hs.one).2.2 t (hr k o List.mem_cons_self hs.op)]

structure Stat (E : Env) (all : List Oper) (bs : List Nat) : Prop where
  eq : bs = preds [] all
  ord : ∀ k o j oj d, all[k]? = some o → all[j]? = some oj → oj.dst = some d → d ∈ readsT all o →
    (j = k ∧ anch E o = true) ∨ (j ≠ k ∧ (bs.getD k 0).testBit j = true) ∨ (j ≠ k ∧ anch E oj = true ∧ (bs.getD j 0).testBit k = true)
  dst : ∀ (i j : Nat) (o o' : Oper) (d : Tmp), all[i]? = some o → all[j]? = some o' → o.dst = some d → o'.dst = some d → i = j

theorem Stat.of {all : List Oper} (h : okR E all (preds [] all) all 0 = true) : Stat E all (preds [] all) := by
  obtain ⟨h1, h2⟩ := okR_spec h
  refine ⟨rfl, fun k o j oj d hk hj hd hm => ?_, fun i j o o' d hi hj hd hd' => ?_⟩
  · have := ordOk_spec (h1 k o hk) j oj d hj hd hm
    simpa using this
  · rcases Nat.lt_trichotomy i j with h | h | h
    · exact absurd hd' (h2 i j o o' d h hi hj hd)
    · exact h
    · exact absurd hd (h2 j i o' o d h hj hi hd')

theorem mem_reads {all : List Oper} {o : Oper} {t : Tmp} (h : Operand.tmp t ∈ opnds o.op) : t ∈ readsT all o := by
  unfold readsT
  exact List.mem_append_left _ (List.mem_filterMap.2 ⟨_, h, rfl⟩)

theorem guard_reads {all : List Oper} {o og : Oper} {g : Nat} {q : Bool} {d : Tmp} (h : o.guard = some (g, q)) (hg : all[g]? = some og) (hd : og.dst = some d) : d ∈ readsT all o := by
  unfold readsT
  rw [h]
  simp only [hg, hd]
  exact List.mem_append_right _ (by simp)

/-- temporaries that an operation reads stand for values -/
def TL (φ : Pl) (a : Tmps) (ts : Array Value) (S : List Nat) : Prop := ∀ t ∈ S, ∀ v, a.m.get t = some v → ∃ y, ts[t]? = some y ∧ VR φ v y

theorem evs_local {φ : Pl} {a : Tmps} {ts : Array Value} {ds : List Deferred} {S : List Nat} (hT : TL φ a ts S) : ∀ {xs : List Operand} {vs : List Value}, (∀ t, Operand.tmp t ∈ xs → t ∈ S) → evs a xs = some vs → VRs φ vs (xs.map (Act.mk ts ds).eval)
  | [], vs, _, h => by simp [evs] at h; subst h; exact .nil
  | x :: xs, vs, hS, h => by
    simp only [evs] at h
    split at h
    · rename_i v l hv hl
      simp at h; subst h
      refine .cons ?_ (evs_local hT (fun t ht => hS t (List.mem_cons_of_mem _ ht)) hl)
      cases x with
      | tmp t =>
        obtain ⟨y, h1, h2⟩ := hT t (hS t List.mem_cons_self) v hv
        simp only [Act.eval, Array.getD_eq_getD_getElem?, h1, Option.getD_some]
        exact h2
      | const c =>
        simp only [ev] at hv
        split at hv
        · rename_i hp; simp at hv; subst hv; exact VR.plain φ hp
        · simp at hv
      | global g => simp [ev] at hv
      | func f => simp [ev] at hv; subst hv; exact .func f .nil .nil
    · simp at h

theorem wanted_local {φ : Pl} {a : Tmps} {ts : Array Value} {o : Oper} {ops : Array Oper} (hT : TL φ a ts (readsT ops.toList o)) {b : Bool} (h : wantedA o.guard ops.toList a = some b) : Region.wanted o (yielded ops ts) = b := by
  unfold wantedA at h
  unfold Region.wanted
  split at h
  · rename_i hg; simp at h; subst h; simp [hg]
  · rename_i j want hg
    simp only [hg]
    split at h
    · rename_i oj hoj
      split at h
      · rename_i d hd
        have hj : ops[j]? = some oj := by simpa using hoj
        have hmem := guard_reads hg hoj hd
        split at h
        · rename_i q hq
          obtain ⟨y, h1, h2⟩ := hT _ hmem _ hq
          cases h2
          simp at h; subst h
          simp [yielded, hj, hd, h1]
        · rename_i l hq
          obtain ⟨y, h1, h2⟩ := hT _ hmem _ hq
          cases h2 with
          | tuple h2 =>
            split at h
            · rename_i hl
              simp at h; subst h
              subst hl
              cases h2
              simp [yielded, hj, hd, h1]
            · simp at h
        · simp at h
      · simp at h
    · simp at h

theorem wanted_congr {ts ts' : Array Value} {o : Oper} {ops : Array Oper} (h : ∀ t ∈ readsT ops.toList o, ts'[t]? = ts[t]?) : Region.wanted o (yielded ops ts') = Region.wanted o (yielded ops ts) := by
  unfold Region.wanted
  cases hg : o.guard with
  | none => rfl
  | some q =>
    obtain ⟨j, want⟩ := q
    have : yielded ops ts' j = yielded ops ts j := by
      unfold yielded
      cases hj : ops[j]? with
      | none => rfl
      | some oj =>
        cases hd : oj.dst with
        | none => simp [hd]
        | some d =>
          have := h d (guard_reads hg (by simpa using hj) hd)
          simp [hd, this]
    simp only [this]

theorem map_congr {ts ts' : Array Value} {o : Oper} {all : List Oper} (h : ∀ t ∈ readsT all o, ts'[t]? = ts[t]?) : (opnds o.op).map (Act.mk ts' []).eval = (opnds o.op).map (Act.mk ts []).eval := by
  refine List.map_congr_left fun x hx => ?_
  cases x with
  | tmp t => simp only [Act.eval, Array.getD_eq_getD_getElem?, h t (mem_reads hx)]
  | _ => rfl

end Go.Eng
end

section
namespace Go.Eng
variable {P : Program} {E : Env}

/-! ### Which number an operation on the canonical way will give its new object -/
def NewAt (E : Env) (call : CallF) (all : List Oper) (bs : List Nat) : List Nat → DS → Nat → Nat → Prop
  | [], _, _, _ => False
  | i :: r, s, j, n => ∃ s', stepD E call all bs i s = some s' ∧ ((i = j ∧ s'.h.next = s.h.next + 1 ∧ n = s.h.next) ∨ NewAt E call all bs r s' j n)

theorem stepD_next {call : CallF} (hM : CallMono call) {all : List Oper} {bs : List Nat} {i : Nat} {s s' : DS} (h : stepD E call all bs i s = some s') : s.h.next ≤ s'.h.next := by
  obtain ⟨o, b, hs⟩ := stepD_spec h
  exact oneA_next hM hs.one

theorem NewAt.ge {call : CallF} (hM : CallMono call) {all : List Oper} {bs : List Nat} : ∀ {r : List Nat} {s : DS} {j n : Nat}, NewAt E call all bs r s j n → s.h.next ≤ n
  | i :: r, s, j, n, ⟨s', h1, h2⟩ => by
    rcases h2 with ⟨_, _, h3⟩ | h2
    · omega
    · exact Nat.le_trans (stepD_next hM h1) (NewAt.ge hM h2)

theorem NewAt.inj {call : CallF} (hM : CallMono call) {all : List Oper} {bs : List Nat} : ∀ {r : List Nat} {s : DS} {j j' n : Nat}, NewAt E call all bs r s j n → NewAt E call all bs r s j' n → j = j'
  | i :: r, s, j, j', n, ⟨s1, h1, h2⟩, ⟨s2, h3, h4⟩ => by
    rw [h1] at h3; simp at h3; subst h3
    rcases h2 with ⟨e1, e2, e3⟩ | h2 <;> rcases h4 with ⟨f1, f2, f3⟩ | h4
    · omega
    · have := NewAt.ge hM h4; omega
    · have := NewAt.ge hM h2; omega
    · exact NewAt.inj hM h2 h4

theorem NewAt.mem {call : CallF} {all : List Oper} {bs : List Nat} : ∀ {r : List Nat} {s : DS} {j n : Nat}, NewAt E call all bs r s j n → j ∈ r
  | i :: r, s, j, n, ⟨s', h1, h2⟩ => by
    rcases h2 with ⟨e, _⟩ | h2
    · subst e; exact List.mem_cons_self
    · exact List.mem_cons_of_mem _ (NewAt.mem h2)

theorem NewAt.tail {call : CallF} {all : List Oper} {bs : List Nat} {i : Nat} {r : List Nat} {s s' : DS} {j n : Nat} (h : NewAt E call all bs (i :: r) s j n) (hs : stepD E call all bs i s = some s') (hne : i ≠ j) : NewAt E call all bs r s' j n := by
  obtain ⟨s1, h1, h2⟩ := h
  rw [hs] at h1; simp at h1; subst h1
  rcases h2 with ⟨e, _⟩ | h2
  · exact absurd e hne
  · exact h2

theorem NewAt.behind {call : CallF} {all : List Oper} {bs : List Nat} : ∀ {r1 r2 : List Nat} {s s1 : DS} {j n : Nat}, goD E call all bs r1 s = some s1 → NewAt E call all bs r2 s1 j n → NewAt E call all bs (r1 ++ r2) s j n
  | [], r2, s, s1, j, n, h, hn => by simp [goD] at h; subst h; exact hn
  | i :: r1, r2, s, s1, j, n, h, hn => by
    obtain ⟨s', h1, h2⟩ := goD_cons h
    exact ⟨s', h1, .inr (NewAt.behind h2 hn)⟩

/-! ### Placements -/
theorem Rel.push {h : H} {φ : Pl} {w : World} (a : Rel h φ w) (o : Obj) : Rel h φ { w with heap := w.heap.push o } :=
  ⟨fun k x hk => let ⟨p, h1, h2⟩ := a.obj k x hk; ⟨p, h1, h2.world (by have := h2.lt; simp only [Array.getElem?_push]; rw [if_neg (by omega)])⟩, a.inj, a.fresh⟩

theorem Step.push {h0 h : H} {φ0 φ : Pl} {w0 w : World} (a : Step h0 φ0 w0 h φ w) (o : Obj) : Step h0 φ0 w0 h φ { w with heap := w.heap.push o } :=
  ⟨a.ext, a.next, by have := a.size; simp; omega, fun b hb hl => by have := a.size; simp only [Array.getElem?_push]; rw [if_neg (by omega)]; exact a.frame b hb hl, a.live, a.os, a.tape, a.output⟩

/-- a block that is there becomes a new object -/
theorem Rel.adopt {h : H} {φ : Pl} {w : World} (a : Rel h φ w) {x : AObj} {p : Pt} (hl : ¬ Live h φ p.b) (ho : OR (φ.add h.next p) w p x) : Rel (h.new x) (φ.add h.next p) w := by
  have hn : φ h.next = none := a.fresh _ (Nat.le_refl _)
  have hx := Pl.add_ext (φ := φ) p hn
  have key : ∀ k y q, (h.new x).get k = some y → (φ.add h.next p) k = some q → (k = h.next ∧ q = p) ∨ (k ≠ h.next ∧ h.get k = some y ∧ φ k = some q ∧ q.b ≠ p.b) := by
    intro k y q hk hq
    rw [H.get_new] at hk
    by_cases e : k = h.next
    · subst e; rw [Pl.add_self] at hq; simp at hq; exact .inl ⟨rfl, hq.symm⟩
    · rw [if_neg e] at hk
      simp only [Pl.add, if_neg e] at hq
      exact .inr ⟨e, hk, hq, fun hb => hl ⟨k, y, q, hk, hq, hb⟩⟩
  refine ⟨?_, ?_, ?_⟩
  · intro k y hk
    rw [H.get_new] at hk
    by_cases e : k = h.next
    · rw [if_pos e] at hk; simp at hk; subst hk; subst e; exact ⟨_, Pl.add_self _ _ _, ho⟩
    · rw [if_neg e] at hk
      obtain ⟨q, hq, hor⟩ := a.obj k y hk
      exact ⟨q, hx _ _ hq, hor.mono hx⟩
  · intro k k' y y' q q' hk hk' hq hq' hb
    rcases key k y q hk hq with ⟨e, e2⟩ | ⟨e, e2, e3, e4⟩ <;> rcases key k' y' q' hk' hq' with ⟨f, f2⟩ | ⟨f, f2, f3, f4⟩
    · rw [e, f]
    · subst e2; exact absurd hb.symm f4
    · subst f2; exact absurd hb e4
    · exact a.inj k k' y y' q q' e2 f2 e3 f3 hb
  · intro k hk
    have hk' : h.next < k := hk
    simp only [Pl.add]
    rw [if_neg (by omega)]
    exact a.fresh k (by omega)

theorem Live.new {h : H} {φ : Pl} {x : AObj} {p : Pt} {b : Nat} (hl : Live (h.new x) (φ.add h.next p) b) : Live h φ b ∨ b = p.b := by
  obtain ⟨k, y, q, hk, hq, rfl⟩ := hl
  rw [H.get_new] at hk
  by_cases e : k = h.next
  · subst e; rw [Pl.add_self] at hq; simp at hq; subst hq; exact .inr rfl
  · rw [if_neg e] at hk
    simp only [Pl.add, if_neg e] at hq
    exact .inl ⟨k, y, q, hk, hq, rfl⟩

/-! ### The middle of a region -/
/-- an operation that ran ahead of its turn -/
structure Early (P : Program) (E : Env) (call : CallF) (ops : Array Oper) (bs : List Nat) (r : List Nat) (s sf : DS) (ts : Array Value) (w : World) (φ ψ : Pl) (B : Nat → Option Nat) (j : Nat) (o : Oper) (y : Value) : Prop where
  dst : ∀ t, o.dst = some t → ts[t]? = some y ∧ ∀ v, sf.a.m.get t = some v → VR ψ v y
  un : Region.wanted o (yielded ops ts) = false → y = undef
  pure : Region.wanted o (yielded ops ts) = true → cls E o.op = .pure → ∃ ρ we, (opnds o.op).map ρ = (opnds o.op).map (Act.mk ts []).eval ∧ (execOp ρ o).run P we = .ok (.value y) we
  load : Region.wanted o (yielded ops ts) = true → cls E o.op = .load → ∀ t v, o.dst = some t → sf.a.m.get t = some v → VR φ v y
  new : Region.wanted o (yielded ops ts) = true → cls E o.op = .new → ∃ ρ we obj, (opnds o.op).map ρ = (opnds o.op).map (Act.mk ts []).eval ∧ (execOp ρ o).run P we = .ok (.value y) { we with heap := we.heap.push obj } ∧
    B j = some we.heap.size ∧ w.heap[we.heap.size]? = some obj ∧ ∀ n, NewAt E call ops.toList bs r s j n → ψ n = some ⟨we.heap.size, 0, objSize obj⟩

structure Inv (P : Program) (E : Env) (call : CallF) (ops : Array Oper) (bs : List Nat) (h0 : H) (φ0 : Pl) (w0 : World) (r : List Nat) (s sf : DS) (X : Nat → Bool) (ts : Array Value) (w : World) (φ ψ : Pl) (B : Nat → Option Nat) : Prop where
  go : goD E call ops.toList bs r s = some sf
  sub : ∀ i, s.done.testBit i = true → X i = true
  flt : ∀ i o, X i = true → s.done.testBit i = false → ops.toList[i]? = some o → anch E o = false
  lt : ∀ i, X i = true → i < ops.toList.length
  closed : ∀ k o, X k = true → ops.toList[k]? = some o → ∀ e ∈ o.after.toList, Region.binds .any e = true → X e.on = true
  rel : Rel s.h φ w
  step : Step h0 φ0 w0 s.h φ w
  tsz : ts.size = s.a.n
  t1 : ∀ t v, s.a.m.get t = some v → (∀ j o, X j = true → s.done.testBit j = false → ops.toList[j]? = some o → o.dst ≠ some t) → ∃ y, ts[t]? = some y ∧ VR φ v y
  t2 : ∀ j o, X j = true → s.done.testBit j = false → ops.toList[j]? = some o → ∃ y, Early P E call ops bs r s sf ts w φ ψ B j o y
  p1 : ∀ n, n < s.h.next → ψ n = φ n
  p2 : ∀ n p, s.h.next ≤ n → ψ n = some p → ∃ j, X j = true ∧ s.done.testBit j = false ∧ NewAt E call ops.toList bs r s j n
  dis : ∀ j j' b, X j = true → s.done.testBit j = false → X j' = true → s.done.testBit j' = false → B j = some b → B j' = some b → j = j'
  nlv : ∀ j b, X j = true → s.done.testBit j = false → B j = some b → ¬ Live s.h φ b ∧ b < w.heap.size ∧ w0.heap.size ≤ b

theorem Inv.ext {call : CallF} {ops : Array Oper} {bs : List Nat} {h0 : H} {φ0 : Pl} {w0 : World} {r : List Nat} {s sf : DS} {X : Nat → Bool} {ts : Array Value} {w : World} {φ ψ : Pl} {B : Nat → Option Nat}
    (I : Inv P E call ops bs h0 φ0 w0 r s sf X ts w φ ψ B) : Ext φ ψ := fun n p hp => by
  rcases Nat.lt_or_ge n s.h.next with h | h
  · rw [I.p1 n h]; exact hp
  · rw [I.rel.fresh n h] at hp; simp at hp

/-- what the next operation on the canonical way reads is there -/
theorem Inv.reads {call : CallF} {ops : Array Oper} {bs : List Nat} (hS : Stat E ops.toList bs) {h0 : H} {φ0 : Pl} {w0 : World} {i : Nat} {r : List Nat} {s s' sf : DS} {X : Nat → Bool} {ts : Array Value} {w : World} {φ ψ : Pl} {B : Nat → Option Nat}
    (I : Inv P E call ops bs h0 φ0 w0 (i :: r) s sf X ts w φ ψ B) {o : Oper} {b : Nat} (hs : StepD E call ops.toList bs i s s' o b) : TL φ s.a ts (readsT ops.toList o) := by
  intro t ht v hv
  refine I.t1 t v hv fun j oj hj hd hoj hdst => ?_
  rcases hS.ord i o j oj t hs.op hoj hdst ht with ⟨e, h1⟩ | ⟨e, h1⟩ | ⟨e, h1, h2⟩
  · subst e
    rw [hs.op] at hoj; simp at hoj; subst hoj
    have := I.flt j o hj hd hs.op
    rw [h1] at this; simp at this
  · have h2 : bs.getD i 0 = b := by rw [List.getD_eq_getElem?_getD, hs.mask]; rfl
    rw [h2] at h1
    rw [hs.sub j h1] at hd; simp at hd
  · have := I.flt j oj hj hd hoj
    rw [h1] at this; simp at this

end Go.Eng
end

section
namespace Go.Eng
variable {P : Program} {E : Env}

theorem anch_false {o : Oper} (h : anch E o = false) : cls E o.op = .pure ∨ cls E o.op = .new ∨ cls E o.op = .load := by
  unfold anch at h
  split at h
  · simp at h
  · split at h
    · simp at h
    · rename_i hne
      cases hc : cls E o.op with
      | pure => exact .inl rfl
      | new => exact .inr (.inl rfl)
      | load => exact .inr (.inr rfl)
      | eff => exact absurd hc hne

theorem Early.next {call : CallF} {ops : Array Oper} {bs : List Nat} {i : Nat} {r : List Nat} {s s' sf : DS} {ts : Array Value} {w : World} {φ φ' ψ : Pl} {B : Nat → Option Nat} {j : Nat} {o : Oper} {y : Value}
    (he : Early P E call ops bs (i :: r) s sf ts w φ ψ B j o y) (hs : stepD E call ops.toList bs i s = some s') (hx : Ext φ φ') : Early P E call ops bs r s' sf ts w φ' ψ B j o y := {
  dst := he.dst
  un := he.un
  pure := he.pure
  load := fun h1 h2 t v h3 h4 => (he.load h1 h2 t v h3 h4).mono hx
  new := fun h1 h2 => by
    obtain ⟨ρ, we, obj, g1, g2, g3, g4, g5⟩ := he.new h1 h2
    exact ⟨ρ, we, obj, g1, g2, g3, g4, fun n hn => g5 n ⟨s', hs, .inr hn⟩⟩ }

theorem Inv.turn {call : CallF} {ops : Array Oper} {bs : List Nat} {h0 : H} {φ0 : Pl} {w0 : World} {i : Nat} {r : List Nat} {s s' sf : DS} {X : Nat → Bool} {ts : Array Value} {w : World} {φ φ' ψ : Pl} {B : Nat → Option Nat}
    (I : Inv P E call ops bs h0 φ0 w0 (i :: r) s sf X ts w φ ψ B) {o : Oper} {b : Nat} (hst : stepD E call ops.toList bs i s = some s') (hs : StepD E call ops.toList bs i s s' o b) (hgo : goD E call ops.toList bs r s' = some sf) (hX : X i = true)
    {v : Value} (hput : putT s.a o.dst v = some s'.a) (hx : Ext φ φ') (hR : Rel s'.h φ' w) (hstep : Step h0 φ0 w0 s'.h φ' w) (hv : ∀ t, o.dst = some t → ∃ y, ts[t]? = some y ∧ VR φ' v y)
    (hp1 : ∀ n, n < s'.h.next → ψ n = φ' n) (hle : s.h.next ≤ s'.h.next) (hnl : ∀ j b, j ≠ i → X j = true → s.done.testBit j = false → B j = some b → ¬ Live s'.h φ' b) :
    Inv P E call ops bs h0 φ0 w0 r s' sf X ts w φ' ψ B := by
  obtain ⟨hn, hd1, hd2⟩ := putT_n hput
  have hdone : ∀ j, s'.done.testBit j = false → s.done.testBit j = false ∧ j ≠ i := by
    intro j hj
    rw [hs.done, done_bit, Bool.or_eq_false_iff] at hj
    exact ⟨hj.1, fun e => by subst e; simp at hj⟩
  have hdone' : ∀ j, s.done.testBit j = false → j ≠ i → s'.done.testBit j = false := by
    intro j hj hji
    rw [hs.done, done_bit, hj]; simp; exact fun e => hji e.symm
  refine ⟨hgo, ?_, ?_, I.lt, I.closed, hR, hstep, by rw [I.tsz, hn], ?_, ?_, hp1, ?_, ?_, ?_⟩
  · intro j hj
    rw [hs.done, done_bit, Bool.or_eq_true] at hj
    rcases hj with hj | hj
    · exact I.sub j hj
    · simp at hj; subst hj; exact hX
  · intro j oj h1 h2 h3
    exact I.flt j oj h1 (hdone j h2).1 h3
  · intro t u hu hne
    by_cases hd : o.dst = some t
    · have := (hd1 t hd).2
      rw [this] at hu; simp at hu; subst hu
      exact hv t hd
    · rw [hd2 t hd] at hu
      obtain ⟨y, h1, h2⟩ := I.t1 t u hu (fun j oj h3 h4 h5 h6 => by
        by_cases e : j = i
        · subst e; rw [hs.op] at h5; simp at h5; subst h5; exact hd h6
        · exact hne j oj h3 (hdone' j h4 e) h5 h6)
      exact ⟨y, h1, h2.mono hx⟩
  · intro j oj h1 h2 h3
    obtain ⟨y, hy⟩ := I.t2 j oj h1 (hdone j h2).1 h3
    exact ⟨y, hy.next hst hx⟩
  · intro n p hn2 hp
    obtain ⟨j, h1, h2, h3⟩ := I.p2 n p (Nat.le_trans hle hn2) hp
    by_cases e : i = j
    · subst e
      obtain ⟨s1, h4, h5⟩ := h3
      rw [hst] at h4; simp at h4; subst h4
      rcases h5 with ⟨_, h6, h7⟩ | h5
      · omega
      · have := (goD_keep hgo i (by rw [hs.done, done_bit]; simp)).2
        exact absurd (NewAt.mem h5) this
    · exact ⟨j, h1, hdone' j h2 (fun e' => e e'.symm), NewAt.tail h3 hst e⟩
  · intro j j' b' h1 h2 h3 h4 h5 h6
    exact I.dis j j' b' h1 (hdone j h2).1 h3 (hdone j' h4).1 h5 h6
  · intro j b' h1 h2 h3
    obtain ⟨h4, h5, h6⟩ := I.nlv j b' h1 (hdone j h2).1 h3
    exact ⟨hnl j b' (hdone j h2).2 h1 (hdone j h2).1 h3, h5, h6⟩

theorem Inv.absorb (hE : EnvOK P E) {call : CallF} {ops : Array Oper} {bs : List Nat} (hS : Stat E ops.toList bs) {h0 : H} {φ0 : Pl} {w0 : World} {i : Nat} {r : List Nat} {s sf : DS} {X : Nat → Bool} {ts : Array Value} {w : World} {φ ψ : Pl} {B : Nat → Option Nat}
    (I : Inv P E call ops bs h0 φ0 w0 (i :: r) s sf X ts w φ ψ B) (hX : X i = true) : ∃ s' φ', stepD E call ops.toList bs i s = some s' ∧ Inv P E call ops bs h0 φ0 w0 r s' sf X ts w φ' ψ B := by
  obtain ⟨s', hst, hgo⟩ := goD_cons I.go
  obtain ⟨o, b, hs⟩ := stepD_spec hst
  refine ⟨s', ?_⟩
  have hfl := I.flt i o hX hs.new hs.op
  have hTL := I.reads hS hs
  obtain ⟨y, hy⟩ := I.t2 i o hX hs.new hs.op
  have hkeep : s'.h = s.h → ∀ (v : Value), putT s.a o.dst v = some s'.a → (∀ t, o.dst = some t → VR φ v y) → ∃ φ', stepD E call ops.toList bs i s = some s' ∧ Inv P E call ops bs h0 φ0 w0 r s' sf X ts w φ' ψ B := by
    intro hh v hput hv
    exact ⟨φ, hst, I.turn hst hs hgo hX hput (Ext.refl _) (by rw [hh]; exact I.rel) (by rw [hh]; exact I.step) (fun t ht => ⟨y, (hy.dst t ht).1, hv t ht⟩) (by rw [hh]; exact I.p1) (by rw [hh]; exact Nat.le_refl _)
      (fun j b' _ h2 h3 h4 => by rw [hh]; exact (I.nlv j b' h2 h3 h4).1)⟩
  -- the value that the canonical way gives is the one at the end
  have hfin : ∀ v, putT s.a o.dst v = some s'.a → ∀ t, o.dst = some t → sf.a.m.get t = some v := by
    intro v hput t ht
    rw [goD_stay hgo, ((putT_n hput).2.1 t ht).2]
    intro j oj hj hoj hd
    have := hS.dst i j o oj t hs.op hoj ht hd
    subst this
    exact (goD_keep hgo i (by rw [hs.done, done_bit]; simp)).2 hj
  rcases oneA_cases hs.one with ⟨vs, v, hw, hvs, hop, hput⟩ | ⟨hw, hh, hput⟩
  · have hwant := wanted_local hTL hw
    have hvr : VRs φ vs ((opnds o.op).map (Act.mk ts []).eval) := evs_local hTL (fun t ht => mem_reads ht) hvs
    unfold opA at hop
    rcases anch_false hfl with hc | hc | hc
    · rw [hc] at hop
      simp only at hop
      split at hop
      · rename_i v' hp
        simp at hop; obtain ⟨rfl, hh⟩ := hop
        obtain ⟨ρ, we, g1, g2⟩ := hy.pure hwant hc
        obtain ⟨c, g3, g4⟩ := pureA_sound hE hp (by rw [g1]; exact hvr) rfl we
        rw [g2] at g3; simp at g3; subst g3
        exact hkeep hh.symm _ hput fun _ _ => g4
      · simp at hop
    · rw [hc] at hop
      simp only at hop
      split at hop
      · rename_i x k hp
        simp at hop; obtain ⟨rfl, hh⟩ := hop
        obtain ⟨ρ, we, obj, g1, g2, g3, g4, g5⟩ := hy.new hwant hc
        obtain ⟨obj', sz, c, g6, g7, g8⟩ := newA_sound hE hp (by rw [g1]; exact hvr) rfl
        have hrun := g7 we
        rw [g2] at hrun
        simp at hrun
        obtain ⟨e1, e2⟩ := hrun
        have hobj : obj = obj' := by
          have h9 : we.heap.push obj = we.heap.push obj' := congrArg (fun w : World => w.heap) e2
          exact (Array.push_eq_push.1 h9).1
        subst hobj
        subst g6
        have hnat : NewAt E call ops.toList bs (i :: r) s i s.h.next := ⟨s', hst, .inl ⟨rfl, by rw [← hh]; rfl, rfl⟩⟩
        have hψ := g5 _ hnat
        obtain ⟨hnl, hlt, hge⟩ := I.nlv i _ hX hs.new g3
        have hn : φ s.h.next = none := I.rel.fresh _ (Nat.le_refl _)
        obtain ⟨hor, hvr2⟩ := g8 (φ.add s.h.next ⟨we.heap.size, 0, objSize obj⟩) s.h.next w we.heap.size (Pl.add_ext _ hn) (Pl.add_self _ _ _) g4
        have hR : Rel s'.h (φ.add s.h.next ⟨we.heap.size, 0, objSize obj⟩) w := by rw [← hh]; exact I.rel.adopt hnl hor
        refine ⟨_, hst, I.turn hst hs hgo hX hput (Pl.add_ext _ hn) hR ?_ (fun t ht => ⟨y, (hy.dst t ht).1, by rw [e1]; exact hvr2⟩) ?_ (by rw [← hh]; exact Nat.le_succ _) ?_⟩
        · refine ⟨I.step.ext.trans (Pl.add_ext _ hn), by rw [← hh]; exact Nat.le_trans I.step.next (Nat.le_succ _), I.step.size, I.step.frame, ?_, I.step.os, I.step.tape, I.step.output⟩
          intro b' hb'
          rw [← hh] at hb'
          rcases Live.new hb' with h1 | h1
          · exact I.step.live b' h1
          · subst h1; exact .inr hge
        · intro n hn2
          rw [← hh] at hn2
          have hn2 : n < s.h.next + 1 := hn2
          by_cases e : n = s.h.next
          · subst e; rw [hψ, Pl.add_self]
          · simp only [Pl.add, if_neg e]; exact I.p1 n (by omega)
        · intro j b' hne h2 h3 h4 hl
          rw [← hh] at hl
          rcases Live.new hl with h5 | h5
          · exact (I.nlv j b' h2 h3 h4).1 h5
          · subst h5
            exact hne (I.dis j i _ h2 h3 hX hs.new h4 g3)
      · simp at hop
    · rw [hc] at hop
      simp only at hop
      split at hop
      · split at hop
        · rename_i v' hl
          simp at hop; obtain ⟨rfl, hh⟩ := hop
          exact hkeep hh.symm _ hput fun t ht => hy.load hwant hc t _ ht (hfin _ hput t ht)
        · simp at hop
      · simp at hop
  · have hwant := wanted_local hTL hw
    have := hy.un hwant
    subst this
    exact hkeep hh _ hput fun _ _ => VR.undef

end Go.Eng
end

section
namespace Go.Eng
variable {P : Program} {E : Env}

theorem goD_in {call : CallF} {all : List Oper} {bs : List Nat} : ∀ {r : List Nat} {s sf : DS}, goD E call all bs r s = some sf → ∀ i ∈ r, sf.done.testBit i = true ∧ ∃ o b, all[i]? = some o ∧ bs[i]? = some b ∧ ∀ j, b.testBit j = true → sf.done.testBit j = true
  | k :: r, s, sf, h, i, hi => by
    obtain ⟨s1, h1, h2⟩ := goD_cons h
    obtain ⟨o, b, hs⟩ := stepD_spec h1
    rcases List.mem_cons.1 hi with e | e
    · subst e
      refine ⟨(goD_keep h2 i (by rw [hs.done, done_bit]; simp)).1, o, b, hs.op, hs.mask, fun j hj => (goD_keep h2 j ?_).1⟩
      rw [hs.done, done_bit, hs.sub j hj]; rfl
    · exact goD_in h2 i e

/-- the state in which an operation has its turn -/
theorem Inv.ahead {call : CallF} {ops : Array Oper} {bs : List Nat} {h0 : H} {φ0 : Pl} {w0 : World} {r : List Nat} {s sf : DS} {X : Nat → Bool} {ts : Array Value} {w : World} {φ ψ : Pl} {B : Nat → Option Nat}
    (I : Inv P E call ops bs h0 φ0 w0 r s sf X ts w φ ψ B) {i : Nat} (hi : i < ops.toList.length) (hX : X i = false) (hfull : ∀ j, j < ops.toList.length → sf.done.testBit j = true) :
    ∃ r1 r2 s1 s2 o b, r = r1 ++ i :: r2 ∧ goD E call ops.toList bs r1 s = some s1 ∧ stepD E call ops.toList bs i s1 = some s2 ∧ goD E call ops.toList bs r2 s2 = some sf ∧ StepD E call ops.toList bs i s1 s2 o b := by
  rcases goD_done I.go i (hfull i hi) with h | h
  · rw [I.sub i h] at hX; simp at hX
  · obtain ⟨r1, r2, rfl⟩ := List.append_of_mem h
    obtain ⟨s1, h1, h2⟩ := goD_append I.go
    obtain ⟨s2, h3, h4⟩ := goD_cons h2
    obtain ⟨o, b, h5⟩ := stepD_spec h3
    exact ⟨r1, r2, s1, s2, o, b, rfl, h1, h3, h4, h5⟩

theorem Inv.readsAhead {call : CallF} {ops : Array Oper} {bs : List Nat} (hS : Stat E ops.toList bs) {h0 : H} {φ0 : Pl} {w0 : World} {i : Nat} {r1 r2 : List Nat} {s s1 s2 sf : DS} {X : Nat → Bool} {ts : Array Value} {w : World} {φ ψ : Pl} {B : Nat → Option Nat}
    (I : Inv P E call ops bs h0 φ0 w0 (r1 ++ i :: r2) s sf X ts w φ ψ B) (h1 : goD E call ops.toList bs r1 s = some s1) {o : Oper} {b : Nat} (hs : StepD E call ops.toList bs i s1 s2 o b) (hX : X i = false)
    (hready : ∀ j, (bs.getD i 0).testBit j = true → X j = true) (h2 : goD E call ops.toList bs (i :: r2) s1 = some sf) : TL ψ s1.a ts (readsT ops.toList o) := by
  intro t ht u hu
  have hb : bs.getD i 0 = b := by rw [List.getD_eq_getElem?_getD, hs.mask]; rfl
  by_cases ex : ∃ j oj, X j = true ∧ s.done.testBit j = false ∧ ops.toList[j]? = some oj ∧ oj.dst = some t
  · obtain ⟨j, oj, hj, hd, hoj, hdst⟩ := ex
    rcases hS.ord i o j oj t hs.op hoj hdst ht with ⟨e, _⟩ | ⟨e, g1⟩ | ⟨e, g1, g2⟩
    · subst e; rw [hj] at hX; simp at hX
    · rw [hb] at g1
      have hjd := hs.sub j g1
      have hstay : sf.a.m.get t = s1.a.m.get t := goD_stay h2 fun k ok hk hok hkd => by
        have := hS.dst j k oj ok t hoj hok hdst hkd
        subst this
        exact (goD_keep h2 j hjd).2 hk
      obtain ⟨y, hy⟩ := I.t2 j oj hj hd hoj
      obtain ⟨g3, g4⟩ := hy.dst t hdst
      exact ⟨y, g3, g4 u (by rw [hstay]; exact hu)⟩
    · have := I.flt j oj hj hd hoj
      rw [g1] at this; simp at this
  · have hstay : s1.a.m.get t = s.a.m.get t := goD_stay h1 fun j oj hj hoj hdst => by
      have hjr : j ∈ r1 ++ i :: r2 := List.mem_append_left _ hj
      have hXj : X j = false := by
        cases hXj : X j with
        | false => rfl
        | true =>
          refine absurd ⟨j, oj, hXj, ?_, hoj, hdst⟩ ex
          cases hd : s.done.testBit j with
          | false => rfl
          | true => exact absurd hjr (goD_keep I.go j hd).2
      obtain ⟨g0, oj', bj, g1, g2, g3⟩ := goD_in h1 j hj
      rcases hS.ord i o j oj t hs.op hoj hdst ht with ⟨e, _⟩ | ⟨e, g4⟩ | ⟨e, g4, g5⟩
      · subst e; rw [hs.new] at g0; simp at g0
      · rw [hready j g4] at hXj; simp at hXj
      · rw [List.getD_eq_getElem?_getD, g2] at g5
        have := g3 i g5
        rw [hs.new] at this; simp at this
    obtain ⟨y, h3, h4⟩ := I.t1 t u (by rw [← hstay]; exact hu) (fun j oj g1 g2 g3 g4 => ex ⟨j, oj, g1, g2, g3, g4⟩)
    exact ⟨y, h3, h4.mono I.ext⟩

/-- who ran ahead doesn't read what is written now -/
theorem Inv.unread {call : CallF} {ops : Array Oper} {bs : List Nat} (hS : Stat E ops.toList bs) {h0 : H} {φ0 : Pl} {w0 : World} {r : List Nat} {s sf : DS} {X : Nat → Bool} {ts : Array Value} {w : World} {φ ψ : Pl} {B : Nat → Option Nat}
    (I : Inv P E call ops bs h0 φ0 w0 r s sf X ts w φ ψ B) {i j : Nat} {o oj : Oper} {d : Tmp} (hX : X i = false) (ho : ops.toList[i]? = some o) (hd : o.dst = some d) (hj : X j = true) (hoj : ops.toList[j]? = some oj)
    (hna : anch E o = true → (bs.getD i 0).testBit j = false) : d ∉ readsT ops.toList oj := by
  intro hm
  rcases hS.ord j oj i o d hoj ho hd hm with ⟨e, _⟩ | ⟨e, g1⟩ | ⟨e, g1, g2⟩
  · subst e; rw [hj] at hX; simp at hX
  · rw [hS.eq] at g1
    rw [closed_preds I.closed I.lt j hj i g1] at hX; simp at hX
  · rw [hna g1] at g2; simp at g2

theorem Early.keep {call : CallF} {ops : Array Oper} {bs : List Nat} {r : List Nat} {s sf : DS} {ts ts' : Array Value} {w w' : World} {φ ψ ψ' : Pl} {B B' : Nat → Option Nat} {j : Nat} {o : Oper} {y : Value}
    (he : Early P E call ops bs r s sf ts w φ ψ B j o y) (hread : ∀ t ∈ readsT ops.toList o, ts'[t]? = ts[t]?) (hdst : ∀ t, o.dst = some t → ts'[t]? = ts[t]?) (hx : Ext ψ ψ') (hB : B' j = B j) (hw : ∀ b, B j = some b → w'.heap[b]? = w.heap[b]?) :
    Early P E call ops bs r s sf ts' w' φ ψ' B' j o y := {
  dst := fun t ht => ⟨by rw [hdst t ht]; exact (he.dst t ht).1, fun v hv => ((he.dst t ht).2 v hv).mono hx⟩
  un := fun h => he.un (by rw [← wanted_congr hread]; exact h)
  pure := fun h hc => by
    obtain ⟨ρ, we, g1, g2⟩ := he.pure (by rw [← wanted_congr hread]; exact h) hc
    exact ⟨ρ, we, by rw [g1, map_congr hread], g2⟩
  load := fun h hc => he.load (by rw [← wanted_congr hread]; exact h) hc
  new := fun h hc => by
    obtain ⟨ρ, we, obj, g1, g2, g3, g4, g5⟩ := he.new (by rw [← wanted_congr hread]; exact h) hc
    exact ⟨ρ, we, obj, by rw [g1, map_congr hread], g2, by rw [hB]; exact g3, by rw [hw _ g3]; exact g4, fun n hn => hx _ _ (g5 n hn)⟩ }

theorem put_get {ts : Array Value} {d : Option Tmp} {c : Value} {t : Nat} (h : d ≠ some t) : ((Act.mk ts []).put d c).tmps[t]? = ts[t]? := by
  cases d with
  | none => rfl
  | some d => simp only [Act.put]; rw [Array.getElem?_setIfInBounds_ne (fun e => h (by rw [e]))]

theorem put_self {ts : Array Value} {d : Tmp} {c : Value} (h : d < ts.size) : ((Act.mk ts []).put (some d) c).tmps[d]? = some c := by
  simp only [Act.put]; rw [Array.getElem?_setIfInBounds, if_pos rfl, if_pos h]

theorem put_size {ts : Array Value} {d : Option Tmp} {c : Value} : ((Act.mk ts []).put d c).tmps.size = ts.size := by
  cases d <;> simp [Act.put]

theorem put_form {ts : Array Value} {d : Option Tmp} {c : Value} : (Act.mk ts []).put d c = ⟨((Act.mk ts []).put d c).tmps, []⟩ := by
  cases d <;> rfl

theorem Inv.early {call : CallF} {ops : Array Oper} {bs : List Nat} (hS : Stat E ops.toList bs) {h0 : H} {φ0 : Pl} {w0 : World} {r : List Nat} {s sf : DS} {X : Nat → Bool} {ts : Array Value} {w w' : World} {φ ψ ψ' : Pl} {B : Nat → Option Nat} {bi : Option Nat}
    (I : Inv P E call ops bs h0 φ0 w0 r s sf X ts w φ ψ B) {i : Nat} {o : Oper} (ho : ops.toList[i]? = some o) (hX : X i = false) (hfl : anch E o = false) (hready : ∀ e ∈ o.after.toList, Region.binds .any e = true → X e.on = true)
    {c : Value} (hx : Ext ψ ψ') (hR : Rel s.h φ w') (hstep : Step h0 φ0 w0 s.h φ w') (hw : ∀ b, b < w.heap.size → w'.heap[b]? = w.heap[b]?) (hsz : w.heap.size ≤ w'.heap.size)
    (hE : Early P E call ops bs r s sf ((Act.mk ts []).put o.dst c).tmps w' φ ψ' (fun j => if j = i then bi else B j) i o c)
    (hp1 : ∀ n, n < s.h.next → ψ' n = φ n) (hp2 : ∀ n p, s.h.next ≤ n → ψ' n = some p → ψ n = some p ∨ NewAt E call ops.toList bs r s i n)
    (hbi : ∀ b, bi = some b → w.heap.size ≤ b ∧ b < w'.heap.size) :
    Inv P E call ops bs h0 φ0 w0 r s sf (fun j => if j = i then true else X j) ((Act.mk ts []).put o.dst c).tmps w' φ ψ' (fun j => if j = i then bi else B j) := by
  have hup : ∀ j, X j = true → j ≠ i := fun j hj e => by subst e; rw [hj] at hX; simp at hX
  refine ⟨I.go, fun j hj => ?_, ?_, ?_, ?_, hR, hstep, by rw [put_size]; exact I.tsz, ?_, ?_, hp1, ?_, ?_, ?_⟩
  · split
    · rfl
    · exact I.sub j hj
  · intro j oj h1 h2 h3
    by_cases e : j = i
    · subst e; rw [ho] at h3; simp at h3; subst h3; exact hfl
    · simp only [if_neg e] at h1; exact I.flt j oj h1 h2 h3
  · intro j h1
    by_cases e : j = i
    · subst e; exact (List.getElem?_eq_some_iff.1 ho).1
    · simp only [if_neg e] at h1; exact I.lt j h1
  · intro k ok h1 h2 ed h3 h4
    have : X ed.on = true := by
      by_cases e : k = i
      · subst e; rw [ho] at h2; simp at h2; subst h2; exact hready ed h3 h4
      · simp only [if_neg e] at h1; exact I.closed k ok h1 h2 ed h3 h4
    simp [this]
  · intro t v hv hne
    have hdt : o.dst ≠ some t := by
      refine hne i o (by simp) ?_ ho
      cases hd : s.done.testBit i with
      | false => rfl
      | true => rw [I.sub i hd] at hX; simp at hX
    rw [put_get hdt]
    exact I.t1 t v hv fun j oj h1 h2 h3 => hne j oj (by simp [hup j h1, h1]) h2 h3
  · intro j oj h1 h2 h3
    by_cases e : j = i
    · subst e; rw [ho] at h3; simp at h3; subst h3; exact ⟨c, hE⟩
    · simp only [if_neg e] at h1
      obtain ⟨y, hy⟩ := I.t2 j oj h1 h2 h3
      have hne : ∀ d, o.dst = some d → d ∉ readsT ops.toList oj := fun d hd => I.unread hS hX ho hd h1 h3 (fun ha => by rw [hfl] at ha; simp at ha)
      refine ⟨y, hy.keep (fun t ht => put_get fun hd => hne t hd ht) (fun t ht => put_get fun hd => e (hS.dst i j o oj t ho h3 hd ht).symm) hx (by simp [e]) (fun b hb => hw b (I.nlv j b h1 h2 hb).2.1)⟩
  · intro n p hn hp
    rcases hp2 n p hn hp with h | h
    · obtain ⟨j, h1, h2, h3⟩ := I.p2 n p hn h
      exact ⟨j, by simp [h1], h2, h3⟩
    · refine ⟨i, by simp, ?_, h⟩
      cases hd : s.done.testBit i with
      | false => rfl
      | true => rw [I.sub i hd] at hX; simp at hX
  · intro j j' b h1 h2 h3 h4 h5 h6
    by_cases e : j = i <;> by_cases e' : j' = i
    · rw [e, e']
    · simp only [if_pos e] at h5; simp only [if_neg e'] at h6 h3
      have := (hbi b h5).1
      have := (I.nlv j' b h3 h4 h6).2.1
      omega
    · simp only [if_neg e] at h5 h1; simp only [if_pos e'] at h6
      have := (hbi b h6).1
      have := (I.nlv j b h1 h2 h5).2.1
      omega
    · simp only [if_neg e] at h5 h1; simp only [if_neg e'] at h6 h3
      exact I.dis j j' b h1 h2 h3 h4 h5 h6
  · intro j b h1 h2 h3
    by_cases e : j = i
    · simp only [if_pos e] at h3
      obtain ⟨g1, g2⟩ := hbi b h3
      refine ⟨?_, g2, Nat.le_trans I.step.size g1⟩
      rintro ⟨k, x, p, k1, k2, rfl⟩
      obtain ⟨p', k3, k4⟩ := I.rel.obj k x k1
      rw [k2] at k3; simp at k3; subst k3
      have := k4.lt
      omega
    · simp only [if_neg e] at h1 h3
      obtain ⟨g1, g2, g3⟩ := I.nlv j b h1 h2 h3
      exact ⟨g1, by omega, g3⟩

end Go.Eng
end

section
namespace Go.Eng
variable {P : Program} {E : Env}

theorem sameA_eq {a b : Option Addr} (h : sameA a b = true) : a = b := by
  unfold sameA at h
  split at h
  · rfl
  · split at h
    · rename_i h1
      have h1 := Nat.eq_of_beq_eq_true h1
      have h2 := Nat.eq_of_beq_eq_true h
      subst h1; subst h2; rfl
    · simp at h
  · split at h
    · rename_i h1 h2
      have h1 := Nat.eq_of_beq_eq_true h1
      have h2 := Nat.eq_of_beq_eq_true h2
      have h3 := Nat.eq_of_beq_eq_true h
      subst h1; subst h2; subst h3; rfl
    · simp at h
  · simp at h

theorem sameV_eq {a b : Value} (h : sameV a b = true) : a = b := by
  unfold sameV at h
  split at h
  · have := eq_of_beq h; subst this; rfl
  · split at h
    · rename_i hk
      have hk : _ = _ := of_decide_eq_true hk
      have := eq_of_beq h; subst this; subst hk; rfl
    · simp at h
  · rename_i x y
    have h : x.data.toList = y.data.toList := eq_of_beq h
    have : x.data = y.data := Array.ext' h
    obtain ⟨x⟩ := x; obtain ⟨y⟩ := y
    simp at this; subst this; rfl
  · rw [sameA_eq h]
  · split at h
    · rename_i h1 h2
      rw [sameA_eq h1, Nat.eq_of_beq_eq_true h2, Nat.eq_of_beq_eq_true h]
    · simp at h
  · rfl
  · rw [Nat.eq_of_beq_eq_true h]
  · rfl
  · rfl
  · rename_i f fi ca f' fi' ca'
    split at h
    · rename_i h1 h2 h3 h4 h5
      have e1 : fi = fi' := by apply Array.ext'; rw [h2, h3]
      have e2 : ca = ca' := by apply Array.ext'; rw [h4, h5]
      rw [Nat.eq_of_beq_eq_true h1, e1, e2]
    · simp at h
  · simp at h

theorem sameL_eq : ∀ {l m : List Value}, sameL l m = true → l = m
  | [], [], _ => rfl
  | x :: l, y :: m, h => by
    simp only [sameL] at h
    split at h
    · rename_i h1; rw [sameV_eq h1, sameL_eq h]
    · simp at h

/-- the way from one state to another turns no cell that the look went over -/
theorem stab_back {call : CallF} {all : List Oper} {bs : List Nat} {b o off n : Nat} {l : List Value} : ∀ {r1 : List Nat} {s s1 : DS} (_ : goD E call all bs r1 s = some s1) (_ : ∀ i ∈ r1, ∀ oi, all[i]? = some oi → anch E oi = true → b.testBit i = false),
    stab b o off n l s1.hist = true → stab b o off n l s.hist = true
  | [], s, s1, h, _, hs => by simp [goD] at h; subst h; exact hs
  | k :: r1, s, s1, h, hb, hs => by
    obtain ⟨s2, h1, h2⟩ := goD_cons h
    obtain ⟨ok, bk, hst⟩ := stepD_spec h1
    have h3 := stab_back h2 (fun i hi => hb i (List.mem_cons_of_mem _ hi)) hs
    cases ha : anch E ok with
    | false => rw [(hst.flt ha).2] at h3; exact h3
    | true =>
      rw [(hst.anc ha).2] at h3
      simp only [stab] at h3
      split at h3
      · split at h3
        · rename_i h4
          rw [hb k List.mem_cons_self ok hst.op ha] at h4; simp at h4
        · exact h3
        · simp at h3
      · simp at h3

theorem stab_head {b o off n i : Nat} {l : List Value} {h : H} {r : List (Nat × H)} (hs : stab b o off n l ((i, h) :: r) = true) : rd h o off n = some l := by
  simp only [stab] at hs
  split at hs
  · rename_i l' hl
    split at hs
    · rename_i h1 _; rw [hl, sameL_eq h1]
    · rename_i h1 _; rw [hl, sameL_eq h1]
    · simp at hs
  · simp at hs

theorem cls_load {op : Op} (h : cls E op = .load) : ∃ t X, op = .load t X := by
  unfold cls at h
  split at h
  all_goals first
    | (simp at h; done)
    | exact ⟨_, _, rfl⟩
    | skip
  all_goals (split at h <;> first | (simp at h; done) | (split at h <;> simp at h))

/-- an operation that is ready and stays nowhere: it runs, whatever else has run -/
theorem Inv.runEarly (hE : EnvOK P E) {call : CallF} (hM : CallMono call) {ops : Array Oper} {bs : List Nat} (hS : Stat E ops.toList bs) {h0 : H} {φ0 : Pl} {w0 : World} {r : List Nat} {s sf : DS} {X : Nat → Bool} {ts : Array Value} {w : World} {φ ψ : Pl} {B : Nat → Option Nat}
    (I : Inv P E call ops bs h0 φ0 w0 r s sf X ts w φ ψ B) (hh : ∃ k rest, s.hist = (k, s.h) :: rest) (hfull : ∀ j, j < ops.toList.length → sf.done.testBit j = true) {i : Nat} {o : Oper} (ho : ops.toList[i]? = some o) (hX : X i = false) (hfl : anch E o = false)
    (hready : ∀ e ∈ o.after.toList, Region.binds .any e = true → X e.on = true) {K : Act → World → Prop} {Q : Exit → Act → World → Prop}
    (hK : ∀ c w' ψ' B', Inv P E call ops bs h0 φ0 w0 r s sf (fun j => if j = i then true else X j) ((Act.mk ts []).put o.dst c).tmps w' φ ψ' B' → K ⟨((Act.mk ts []).put o.dst c).tmps, []⟩ w') :
    if Region.wanted o (yielded ops ts) then o.wp P ⟨ts, []⟩ w K Q else K ((Act.mk ts []).put o.dst undef) w := by
  have hi : i < ops.toList.length := (List.getElem?_eq_some_iff.1 ho).1
  obtain ⟨r1, r2, s1, s2, o', b, rfl, h1, h3, h4, hs⟩ := I.ahead hi hX hfull
  have : o' = o := by have := hs.op; rw [ho] at this; simpa using this.symm
  subst this
  have hrp := ready_preds I.closed I.lt ho hready
  rw [← hS.eq] at hrp
  have hb : bs.getD i 0 = b := by rw [List.getD_eq_getElem?_getD, hs.mask]; rfl
  have hTL := I.readsAhead hS h1 hs hX hrp (by simp only [goD, h3]; exact h4)
  have hown : ∀ d, o'.dst = some d → d ∉ readsT ops.toList o' := by
    intro d hd hm
    rcases hS.ord i o' i o' d ho ho hd hm with ⟨_, g⟩ | ⟨g, _⟩ | ⟨g, _⟩
    · rw [hfl] at g; simp at g
    · exact g rfl
    · exact g rfl
  have hread : ∀ c, ∀ t ∈ readsT ops.toList o', ((Act.mk ts []).put o'.dst c).tmps[t]? = ts[t]? := fun c t ht => put_get fun hd => hown t hd ht
  have hdlt : ∀ t, o'.dst = some t → t < ts.size := fun t ht => by
    rw [I.tsz, ← goD_n h1]; exact (oneA_n hs.one).2.1 t ht
  have hfin : ∀ v, putT s1.a o'.dst v = some s2.a → ∀ t, o'.dst = some t → sf.a.m.get t = some v := by
    intro v hput t ht
    rw [goD_stay h4, ((putT_n hput).2.1 t ht).2]
    intro j oj hj hoj hd
    have := hS.dst i j o' oj t ho hoj ht hd
    subst this
    exact (goD_keep h4 i (by rw [hs.done, done_bit]; simp)).2 hj
  have hnid : i ∉ r1 := fun hm => by have := (goD_in h1 i hm).1; rw [hs.new] at this; simp at this
  have hdst : ∀ (c : Value) (v : Value) (χ : Pl), putT s1.a o'.dst v = some s2.a → VR χ v c → ∀ t, o'.dst = some t → ((Act.mk ts []).put o'.dst c).tmps[t]? = some c ∧ ∀ u, sf.a.m.get t = some u → VR χ u c := by
    intro c v χ hput hv t ht
    refine ⟨by rw [ht]; exact put_self (hdlt t ht), fun u hu => ?_⟩
    rw [hfin v hput t ht] at hu; simp at hu; subst hu; exact hv
  rcases oneA_cases hs.one with ⟨vs, v, hw, hvs, hop, hput⟩ | ⟨hw, hhh, hput⟩
  · have hwant := wanted_local hTL hw
    rw [if_pos hwant]
    have hwant' : ∀ c, Region.wanted o' (yielded ops ((Act.mk ts []).put o'.dst c).tmps) = true := fun c => by rw [wanted_congr (hread c)]; exact hwant
    have hvr : VRs ψ vs ((opnds o'.op).map (Act.mk ts []).eval) := evs_local hTL (fun t ht => mem_reads ht) hvs
    have hmap : ∀ c, (opnds o'.op).map (Act.mk ts []).eval = (opnds o'.op).map (Act.mk ((Act.mk ts []).put o'.dst c).tmps []).eval := fun c => (map_congr (hread c)).symm
    unfold opA at hop
    rcases anch_false hfl with hc | hc | hc
    · rw [hc] at hop
      simp only at hop
      split at hop
      · rename_i v' hp
        simp at hop; obtain ⟨rfl, hh'⟩ := hop
        obtain ⟨c, g3, g4⟩ := pureA_sound hE hp hvr rfl w
        refine Does.wp (.inl ⟨_, c, w, g3, .inl rfl, ?_⟩)
        show K _ _
        rw [put_form]
        refine hK c w ψ _ (I.early (bi := none) hS ho hX hfl hready (Ext.refl _) I.rel I.step (fun _ _ => rfl) (Nat.le_refl _) ?_ I.p1 (fun n p _ hp => .inl hp) (by simp))
        exact ⟨hdst c _ ψ hput g4, fun h => by rw [hwant' c] at h; simp at h, fun _ _ => ⟨_, w, hmap c, g3⟩, fun _ h => by rw [hc] at h; simp at h, fun _ h => by rw [hc] at h; simp at h⟩
      · simp at hop
    · rw [hc] at hop
      simp only at hop
      split at hop
      · rename_i x k hp
        simp at hop; obtain ⟨rfl, hh'⟩ := hop
        obtain ⟨obj, sz, c, g6, g7, g8⟩ := newA_sound hE hp hvr rfl
        subst g6
        have hnat : NewAt E call ops.toList bs (r1 ++ i :: r2) s i s1.h.next := NewAt.behind h1 ⟨s2, h3, .inl ⟨rfl, by rw [← hh']; rfl, rfl⟩⟩
        have hge := goD_next hM h1
        have hψn : ψ s1.h.next = none := by
          cases hq : ψ s1.h.next with
          | none => rfl
          | some q =>
            obtain ⟨j, g1, g2, g3⟩ := I.p2 _ q hge hq
            have := NewAt.inj hM g3 hnat
            subst this; rw [hX] at g1; simp at g1
        have hx := Pl.add_ext (φ := ψ) ⟨w.heap.size, 0, objSize obj⟩ hψn
        obtain ⟨hor, hvr2⟩ := g8 (ψ.add s1.h.next ⟨w.heap.size, 0, objSize obj⟩) s1.h.next { w with heap := w.heap.push obj } w.heap.size hx (Pl.add_self _ _ _) (by simp)
        refine Does.wp (.inl ⟨_, c w.heap.size, _, g7 w, .inl rfl, ?_⟩)
        show K _ _
        rw [put_form]
        refine hK (c w.heap.size) _ (ψ.add s1.h.next ⟨w.heap.size, 0, objSize obj⟩) _ (I.early (bi := some w.heap.size) hS ho hX hfl hready hx (I.rel.push obj) (I.step.push obj) (fun b' hb' => by simp only [Array.getElem?_push]; rw [if_neg (by omega)]) (by simp) ?_ ?_ ?_ (by simp))
        · refine ⟨hdst _ _ _ hput hvr2, fun h => by rw [hwant' _] at h; simp at h, fun _ h => by rw [hc] at h; simp at h, fun _ h => by rw [hc] at h; simp at h, fun _ _ => ⟨_, w, obj, hmap _, g7 w, by simp, by simp, fun n hn => ?_⟩⟩
          have hn2 : n = s1.h.next := by
            -- the number is one
            have key : ∀ {r : List Nat} {s : DS} {j n m : Nat}, NewAt E call ops.toList bs r s j n → NewAt E call ops.toList bs r s j m → (∃ sf, goD E call ops.toList bs r s = some sf) → n = m := by
              intro r
              induction r with
              | nil => intro s j n m h; exact h.elim
              | cons a r ih =>
                rintro s j n m ⟨t1, k1, k2⟩ ⟨t2, k3, k4⟩ ⟨sf, hsf⟩
                rw [k1] at k3; simp at k3; subst k3
                obtain ⟨t3, k5, k6⟩ := goD_cons hsf
                rw [k1] at k5; simp at k5; subst k5
                obtain ⟨oo, bb, hss⟩ := stepD_spec k1
                have hnot : a ∉ r := (goD_keep k6 a (by rw [hss.done, done_bit]; simp)).2
                rcases k2 with ⟨e1, _, e3⟩ | k2 <;> rcases k4 with ⟨f1, _, f3⟩ | k4
                · omega
                · subst e1; exact absurd (NewAt.mem k4) hnot
                · subst f1; exact absurd (NewAt.mem k2) hnot
                · exact ih k2 k4 ⟨sf, k6⟩
            exact key hn hnat ⟨sf, I.go⟩
          subst hn2
          exact Pl.add_self _ _ _
        · intro n hn
          simp only [Pl.add]
          rw [if_neg (by omega)]
          exact I.p1 n hn
        · intro n p hn hp'
          by_cases e : n = s1.h.next
          · subst e; exact .inr hnat
          · simp only [Pl.add, if_neg e] at hp'; exact .inl hp'
      · simp at hop
    · obtain ⟨t, Xo, hop'⟩ := cls_load hc
      rw [hc, hop'] at hop
      simp only at hop
      have hst := (hs.flt hfl).1
      unfold stableD at hst
      rw [hop'] at hst
      simp only [hw] at hst
      rw [hop'] at hvs hvr
      simp only [opnds, evs] at hvs
      split at hvs
      · rename_i pv l0 hpv hl0
        simp at hl0; subst hl0
        simp at hvs; subst hvs
        simp only at hop
        split at hop
        · rename_i v' hl
          simp at hop; obtain ⟨rfl, hh'⟩ := hop
          rw [hpv] at hst
          split at hst
          · rename_i p off n hp hn
            simp at hp; subst hp
            split at hst
            · rename_i l hrd
              have hst2 := stab_back h1 (fun k hk ok hok hak => by
                cases hbk : b.testBit k with
                | false => rfl
                | true =>
                  have hXk := hrp k (by rw [hb]; exact hbk)
                  cases hd : s.done.testBit k with
                  | true => exact absurd (List.mem_append_left _ hk) (goD_keep I.go k hd).2
                  | false => have := I.flt k ok hXk hd hok; rw [hak] at this; simp at this) hst
              obtain ⟨k0, rest, hhist⟩ := hh
              rw [hhist] at hst2
              have hrd2 := stab_head hst2
              have hl2 : loadA E s.h t (.pointer (some ⟨p, off, none⟩)) = some v' := by
                rw [← hl]; simp only [loadA, loadC, hn, hrd, hrd2]
              simp only [opnds, List.map_cons, List.map_nil] at hvr
              cases hvr with | cons hvp _ => ?_
              have hlive : ∃ x, s.h.get p = some x := by
                unfold rd at hrd2
                split at hrd2
                · rename_i vs e hg; exact ⟨_, hg⟩
                · rename_i vs e hg; exact ⟨_, hg⟩
                · rename_i b t fz vs hg; exact ⟨_, hg⟩
                · simp at hrd2
              obtain ⟨_, hg⟩ := hlive
              obtain ⟨q, hq, _⟩ := I.rel.obj _ _ hg
              have hvp' : VR φ (.pointer (some ⟨p, off, none⟩)) ((Act.mk ts []).eval Xo) := by
                generalize (Act.mk ts []).eval Xo = cv at hvp
                cases hvp with
                | ptr hpp =>
                  have := I.ext _ _ hq
                  rw [hpp] at this; simp at this; subst this
                  exact .ptr hq
              obtain ⟨c, g3, g4⟩ := loadA_sound hE I.rel hl2 hvp' hop'
              refine Does.wp (.inl ⟨_, c, w, g3, .inl rfl, ?_⟩)
              show K _ _
              rw [put_form]
              refine hK c w ψ _ (I.early (bi := none) hS ho hX hfl hready (Ext.refl _) I.rel I.step (fun _ _ => rfl) (Nat.le_refl _) ?_ I.p1 (fun n p _ hp => .inl hp) (by simp))
              exact ⟨hdst c _ ψ hput (g4.mono I.ext), fun h => by rw [hwant' c] at h; simp at h, fun _ h => by rw [hc] at h; simp at h, fun _ _ t' u ht' hu => by rw [hfin _ hput t' ht'] at hu; simp at hu; subst hu; exact g4, fun _ h => by rw [hc] at h; simp at h⟩
            · simp at hst
          · simp at hst
        · simp at hop
      · simp at hvs
  · have hwant := wanted_local hTL hw
    rw [if_neg (by rw [hwant]; simp)]
    show K _ _
    rw [put_form]
    refine hK undef w ψ _ (I.early (bi := none) hS ho hX hfl hready (Ext.refl _) I.rel I.step (fun _ _ => rfl) (Nat.le_refl _) ?_ I.p1 (fun n p _ hp => .inl hp) (by simp))
    have hwant' : Region.wanted o' (yielded ops ((Act.mk ts []).put o'.dst undef).tmps) = false := by rw [wanted_congr (hread _)]; exact hwant
    exact ⟨hdst undef _ ψ hput VR.undef, fun _ => rfl, fun h => by rw [hwant'] at h; simp at h, fun h => by rw [hwant'] at h; simp at h, fun h => by rw [hwant'] at h; simp at h⟩

end Go.Eng
end

section
namespace Go.Eng
variable {P : Program} {E : Env}

theorem Inv.absorbAll (hE : EnvOK P E) {call : CallF} {ops : Array Oper} {bs : List Nat} (hS : Stat E ops.toList bs) {h0 : H} {φ0 : Pl} {w0 : World} {r2 : List Nat} {sf : DS} {X : Nat → Bool} {ts : Array Value} {w : World} {ψ : Pl} {B : Nat → Option Nat} :
    ∀ {r1 : List Nat} {s : DS} {φ : Pl} (_ : Inv P E call ops bs h0 φ0 w0 (r1 ++ r2) s sf X ts w φ ψ B) (_ : ∀ j ∈ r1, X j = true), ∃ s' φ', goD E call ops.toList bs r1 s = some s' ∧ Inv P E call ops bs h0 φ0 w0 r2 s' sf X ts w φ' ψ B
  | [], s, φ, I, _ => ⟨s, φ, rfl, I⟩
  | i :: r1, s, φ, I, h => by
    obtain ⟨s1, φ1, h1, I1⟩ := I.absorb hE hS (h i List.mem_cons_self)
    obtain ⟨s2, φ2, h2, I2⟩ := Inv.absorbAll hE hS I1 fun j hj => h j (List.mem_cons_of_mem _ hj)
    exact ⟨s2, φ2, by simp only [goD, h1]; exact h2, I2⟩

/-- an operation that stays in its place -/
theorem Inv.runAnch (hE : EnvOK P E) {call : CallF} (hC : CallsOK P call) (hM : CallMono call) {ops : Array Oper} {bs : List Nat} (hS : Stat E ops.toList bs) {h0 : H} {φ0 : Pl} {w0 : World} {r : List Nat} {s sf : DS} {X : Nat → Bool} {ts : Array Value} {w : World} {φ ψ : Pl} {B : Nat → Option Nat}
    (I : Inv P E call ops bs h0 φ0 w0 r s sf X ts w φ ψ B) (hfull : ∀ j, j < ops.toList.length → sf.done.testBit j = true) {i : Nat} {o : Oper} (ho : ops.toList[i]? = some o) (hX : X i = false) (han : anch E o = true)
    (hready : ∀ e ∈ o.after.toList, Region.binds .any e = true → X e.on = true) {K : Act → World → Prop} {Q : Exit → Act → World → Prop}
    (hK : ∀ r' s' ts' w' φ' ψ', (∃ k rest, s'.hist = (k, s'.h) :: rest) → Inv P E call ops bs h0 φ0 w0 r' s' sf (fun j => if j = i then true else X j) ts' w' φ' ψ' B → K ⟨ts', []⟩ w') :
    if Region.wanted o (yielded ops ts) then o.wp P ⟨ts, []⟩ w K Q else K ((Act.mk ts []).put o.dst undef) w := by
  have hi : i < ops.toList.length := (List.getElem?_eq_some_iff.1 ho).1
  obtain ⟨r1, r2, s1, s2, o', b, rfl, h1, h3, h4, hs⟩ := I.ahead hi hX hfull
  have : o' = o := by have := hs.op; rw [ho] at this; simpa using this.symm
  subst this
  have hrp := ready_preds I.closed I.lt ho hready
  rw [← hS.eq] at hrp
  have hb : bs.getD i 0 = b := by rw [List.getD_eq_getElem?_getD, hs.mask]; rfl
  have hr1 : ∀ j ∈ r1, X j = true := fun j hj => hrp j (by rw [hb]; exact (hs.anc han).1 j (goD_in h1 j hj).1)
  obtain ⟨s1', φ1, h1', I1⟩ := I.absorbAll hE hS hr1
  rw [h1] at h1'; simp at h1'; subst h1'
  have hTL := I1.reads hS hs
  have hup : ∀ j, X j = true → j ≠ i := fun j hj e => by subst e; rw [hj] at hX; simp at hX
  -- what holds behind it
  have next : ∀ (v c : Value) (φ' : Pl) (w' : World), putT s1.a o'.dst v = some s2.a → VR φ' v c → Rel s2.h φ' w' → Step s1.h φ1 w s2.h φ' w' → K ((Act.mk ts []).put o'.dst c) w' := by
    intro v c φ' w' hput hv hR hst
    rw [put_form]
    obtain ⟨hn, hd1, hd2⟩ := putT_n hput
    have hdone : ∀ j, s2.done.testBit j = false → s1.done.testBit j = false ∧ j ≠ i := by
      intro j hj
      rw [hs.done, done_bit, Bool.or_eq_false_iff] at hj
      exact ⟨hj.1, fun e => by subst e; simp at hj⟩
    have hdone' : ∀ j, s1.done.testBit j = false → j ≠ i → s2.done.testBit j = false := by
      intro j hj hji
      rw [hs.done, done_bit, hj]; simp; exact fun e => hji e.symm
    have hunread : ∀ j oj, X j = true → s1.done.testBit j = false → ops.toList[j]? = some oj → ∀ d, o'.dst = some d → d ∉ readsT ops.toList oj := by
      intro j oj h5 h6 h7 d hd
      refine I1.unread hS hX ho hd h5 h7 fun _ => ?_
      cases hbj : (bs.getD i 0).testBit j with
      | false => rfl
      | true => rw [hb] at hbj; rw [hs.sub j hbj] at h6; simp at h6
    let ψ' : Pl := fun n => match φ' n with | some p => some p | none => ψ n
    have hψx : Ext ψ ψ' := by
      intro n p hp
      show (match φ' n with | some p => some p | none => ψ n) = some p
      cases hq : φ' n with
      | none => exact hp
      | some q =>
        rcases Nat.lt_or_ge n s1.h.next with hl | hl
        · rw [I1.p1 n hl] at hp
          have := hst.ext _ _ hp
          rw [hq] at this; simp at this; subst this; rfl
        · obtain ⟨j, g1, g2, g3⟩ := I1.p2 n p hl hp
          have g4 := NewAt.tail g3 h3 (fun e => hup j g1 e.symm)
          have g5 := NewAt.ge hM g4
          rw [hR.fresh n g5] at hq; simp at hq
    refine hK r2 s2 _ w' φ' ψ' ⟨i, s1.hist, (hs.anc han).2⟩ ⟨h4, ?_, ?_, ?_, ?_, hR, I1.step.trans hst, by rw [put_size, hn]; exact I1.tsz, ?_, ?_, ?_, ?_, ?_, ?_⟩
    · intro j hj
      rw [hs.done, done_bit, Bool.or_eq_true] at hj
      rcases hj with hj | hj
      · by_cases e : j = i
        · simp [e]
        · simp [e, I1.sub j hj]
      · simp at hj; simp [hj]
    · intro j oj h5 h6 h7
      obtain ⟨h8, h9⟩ := hdone j h6
      simp only [if_neg h9] at h5
      exact I1.flt j oj h5 h8 h7
    · intro j h5
      by_cases e : j = i
      · subst e; exact hi
      · simp only [if_neg e] at h5; exact I1.lt j h5
    · intro k ok h5 h6 ed h7 h8
      have : X ed.on = true := by
        by_cases e : k = i
        · subst e; rw [ho] at h6; simp at h6; subst h6; exact hready ed h7 h8
        · simp only [if_neg e] at h5; exact I1.closed k ok h5 h6 ed h7 h8
      simp [this]
    · intro t u hu hne
      by_cases hd : o'.dst = some t
      · obtain ⟨hlt, hg⟩ := hd1 t hd
        rw [hg] at hu; simp at hu; subst hu
        exact ⟨c, by rw [hd]; exact put_self (by rw [I1.tsz]; exact hlt), hv⟩
      · rw [hd2 t hd] at hu
        obtain ⟨y, g1, g2⟩ := I1.t1 t u hu fun j oj h5 h6 h7 => hne j oj (by simp [hup j h5, h5]) (hdone' j h6 (hup j h5)) h7
        exact ⟨y, by rw [put_get hd]; exact g1, g2.mono hst.ext⟩
    · intro j oj h5 h6 h7
      obtain ⟨h8, h9⟩ := hdone j h6
      simp only [if_neg h9] at h5
      obtain ⟨y, hy⟩ := I1.t2 j oj h5 h8 h7
      have hne := hunread j oj h5 h8 h7
      exact ⟨y, (hy.next h3 hst.ext).keep (fun t ht => put_get fun hd => hne t hd ht) (fun t ht => put_get fun hd => h9 (hS.dst i j o' oj t ho h7 hd ht).symm) hψx rfl (fun b' hb' => by
        obtain ⟨g1, g2, _⟩ := I1.nlv j b' h5 h8 hb'
        exact hst.frame b' g2 g1)⟩
    · intro n hn2
      show (match φ' n with | some p => some p | none => ψ n) = φ' n
      cases hq : φ' n with
      | some q => rfl
      | none =>
        simp only
        cases hq2 : ψ n with
        | none => rfl
        | some q =>
          rcases Nat.lt_or_ge n s1.h.next with hl | hl
          · rw [I1.p1 n hl] at hq2
            rw [hst.ext _ _ hq2] at hq; simp at hq
          · obtain ⟨j, g1, g2, g3⟩ := I1.p2 n q hl hq2
            have g5 := NewAt.ge hM (NewAt.tail g3 h3 (fun e => hup j g1 e.symm))
            omega
    · intro n p hn2 hp
      have hφ : φ' n = none := hR.fresh n hn2
      have hp2 : ψ n = some p := by
        have : (match φ' n with | some p => some p | none => ψ n) = some p := hp
        rw [hφ] at this; exact this
      obtain ⟨j, g1, g2, g3⟩ := I1.p2 n p (Nat.le_trans (stepD_next hM h3) hn2) hp2
      exact ⟨j, by simp [g1], hdone' j g2 (hup j g1), NewAt.tail g3 h3 (fun e => hup j g1 e.symm)⟩
    · intro j j' b' h5 h6 h7 h8 h9 h10
      obtain ⟨g1, g2⟩ := hdone j h6
      obtain ⟨g3, g4⟩ := hdone j' h8
      simp only [if_neg g2] at h5
      simp only [if_neg g4] at h7
      exact I1.dis j j' b' h5 g1 h7 g3 h9 h10
    · intro j b' h5 h6 h7
      obtain ⟨g1, g2⟩ := hdone j h6
      simp only [if_neg g2] at h5
      obtain ⟨k1, k2, k3⟩ := I1.nlv j b' h5 g1 h7
      refine ⟨fun hl => ?_, Nat.lt_of_lt_of_le k2 hst.size, k3⟩
      rcases hst.live b' hl with h | h
      · exact k1 h
      · omega
  rcases oneA_cases hs.one with ⟨vs, v, hw, hvs, hop, hput⟩ | ⟨hw, hhh, hput⟩
  · rw [if_pos (wanted_local hTL hw)]
    have hvr : VRs φ1 vs ((opnds o'.op).map (Act.mk ts []).eval) := evs_local hTL (fun t ht => mem_reads ht) hvs
    refine Does.wp ((opA_sound hE hC I1.rel hop hvr).mono ?_)
    rintro c w' ⟨φ', g1, g2, g3⟩
    exact next v c φ' w' hput g1 g2 g3
  · rw [if_neg (by rw [wanted_local hTL hw]; simp)]
    exact next undef undef φ1 w hput VR.undef (by rw [hhh]; exact I1.rel) (by rw [hhh]; exact Step.refl _ _ _)

/-- all orders -/
theorem Inv.any (hE : EnvOK P E) {call : CallF} (hC : CallsOK P call) (hM : CallMono call) {ops : Array Oper} {bs : List Nat} (hS : Stat E ops.toList bs) {h0 : H} {φ0 : Pl} {w0 : World} {sf : DS} (hfull : ∀ j, j < ops.toList.length → sf.done.testBit j = true)
    {Q : Exit → Act → World → Prop} (hQ : ∀ φ' ts' w', Rel sf.h φ' w' → TR φ' sf.a ts' → Step h0 φ0 w0 sf.h φ' w' → Q .normal ⟨ts', []⟩ w') :
    ∀ (fuel : Nat) (listed : Array Bool) {r : List Nat} {s : DS} {ts : Array Value} {w : World} {φ ψ : Pl} {B : Nat → Option Nat}, (∃ k rest, s.hist = (k, s.h) :: rest) → listed.size = ops.size →
      ((List.range ops.size).filter fun i => !listed.getD i true).length ≤ fuel → Inv P E call ops bs h0 φ0 w0 r s sf (fun i => listed.getD i false) ts w φ ψ B → wpAny P .any ops Q fuel listed ⟨ts, []⟩ w := by
  intro fuel
  -- where nothing is ready all is listed
  have fin : ∀ (listed : Array Bool) {r : List Nat} {s : DS} {ts : Array Value} {w : World} {φ ψ : Pl} {B : Nat → Option Nat}, listed.size = ops.size → Inv P E call ops bs h0 φ0 w0 r s sf (fun i => listed.getD i false) ts w φ ψ B →
      Region.ready .any ops listed = [] → Q .normal ⟨ts, []⟩ w := by
    intro listed r s ts w φ ψ B hsz I hnil
    have hall : ∀ j ∈ r, listed.getD j false = true := by
      -- the first on the way that is not listed would be ready
      have key : ∀ (r' : List Nat) (s' : DS), goD E call ops.toList bs r' s' = some sf → (∀ j, s'.done.testBit j = true → listed.getD j false = true) → ∀ j ∈ r', listed.getD j false = true := by
        intro r'
        induction r' with
        | nil => intro s' _ _ j hj; simp at hj
        | cons i r' ih =>
          intro s' hgo hd
          obtain ⟨s2, g1, g2⟩ := goD_cons hgo
          obtain ⟨o, b, g3⟩ := stepD_spec g1
          have hi : listed.getD i false = true := by
            cases hli : listed.getD i false with
            | true => rfl
            | false =>
              exfalso
              have hlt : i < ops.size := by have := (List.getElem?_eq_some_iff.1 g3.op).1; simpa using this
              have hmem : i ∈ Region.ready .any ops listed := by
                unfold Region.ready
                refine List.mem_filter.2 ⟨List.mem_range.2 hlt, ?_⟩
                have hlt' : i < listed.size := by omega
                have h5 : listed.getD i true = false := by
                  simp [Array.getD, hlt'] at hli ⊢; exact hli
                have h6 : ops[i]? = some o := by have := g3.op; simpa using this
                rw [h5, h6]
                simp only [Bool.not_false, Option.map_some, Option.getD_some, Bool.true_and]
                rw [← Array.all_toList, List.all_eq_true]
                intro e he
                cases hbd : Region.binds .any e with
                | false => rfl
                | true =>
                  simp only [Bool.not_true, Bool.false_or]
                  refine hd e.on (g3.sub e.on ?_)
                  have h7 := preds_get g3.op
                  rw [← hS.eq, g3.mask] at h7
                  simp at h7
                  rw [h7]
                  -- the mask has what is directly ahead
                  have mk : ∀ (es : List Edge), e ∈ es → (maskE (List.take i bs) es).testBit e.on = true := by
                    intro es
                    induction es with
                    | nil => intro h; simp at h
                    | cons e' es ihe =>
                      intro hm
                      simp only [maskE]
                      rcases List.mem_cons.1 hm with h | h
                      · subst h
                        rw [hbd]
                        show ((2 ^ e.on ||| _) ||| _).testBit e.on = true
                        rw [Nat.testBit_or, Nat.testBit_or, Nat.testBit_two_pow]; simp
                      · have := ihe h
                        split
                        · show ((_ ||| _) ||| maskE (List.take i bs) es).testBit e.on = true
                          rw [Nat.testBit_or, this]; simp
                        · exact this
                  exact mk _ he
              rw [hnil] at hmem; simp at hmem
          intro j hj
          rcases List.mem_cons.1 hj with e | e
          · subst e; exact hi
          · refine ih s2 g2 (fun k hk => ?_) j e
            rw [g3.done, done_bit, Bool.or_eq_true] at hk
            rcases hk with hk | hk
            · exact hd k hk
            · simp at hk; subst hk; exact hi
      exact key r s I.go I.sub
    have I' : Inv P E call ops bs h0 φ0 w0 (r ++ []) s sf (fun i => listed.getD i false) ts w φ ψ B := by rw [List.append_nil]; exact I
    obtain ⟨s', φ', g1, I2⟩ := I'.absorbAll hE hS hall
    rw [I.go] at g1; simp at g1; subst g1
    refine hQ φ' ts w I2.rel ⟨I2.tsz, fun t v hv => I2.t1 t v hv fun j oj h1 h2 h3 _ => ?_⟩ I2.step
    rw [hfull j (I2.lt j h1)] at h2; simp at h2
  induction fuel with
  | zero =>
    intro listed r s ts w φ ψ B _ hsz hlen I
    have hnil : Region.ready .any ops listed = [] := by
      have h0 : ((List.range ops.size).filter fun i => !listed.getD i true) = [] := List.length_eq_zero_iff.1 (by omega)
      unfold Region.ready
      rw [List.filter_eq_nil_iff] at h0 ⊢
      intro i hi
      have := h0 i hi
      simp at this
      simp [this]
    exact ⟨hnil, fin listed hsz I hnil⟩
  | succ fuel ih =>
    intro listed r s ts w φ ψ B hh hsz hlen I
    refine ⟨fin listed hsz I, fun i hi => ?_⟩
    unfold Region.ready at hi
    obtain ⟨hi1, hi2⟩ := List.mem_filter.1 hi
    have hlt := List.mem_range.1 hi1
    obtain ⟨o, ho⟩ : ∃ o, ops[i]? = some o := ⟨_, Array.getElem?_eq_getElem hlt⟩
    rw [ho] at hi2
    simp only [Option.map_some, Option.getD_some, Bool.and_eq_true, Bool.not_eq_true'] at hi2
    obtain ⟨hun, hedges⟩ := hi2
    have hlt' : i < listed.size := by omega
    have hX : listed.getD i false = false := by simp [Array.getD, hlt'] at hun ⊢; exact hun
    have hready : ∀ e ∈ o.after.toList, Region.binds .any e = true → listed.getD e.on false = true := by
      intro e he hb
      rw [← Array.all_toList, List.all_eq_true] at hedges
      have := hedges e he
      rw [hb] at this
      simpa using this
    have ho' : ops.toList[i]? = some o := by simpa using ho
    -- behind it
    have hset : ∀ j, (listed.setIfInBounds i true).getD j false = if j = i then true else listed.getD j false := by
      intro j
      simp only [Array.getD_eq_getD_getElem?, Array.getElem?_setIfInBounds]
      by_cases e : j = i
      · subst e; simp [hlt']
      · rw [if_neg (fun h => e h.symm), if_neg e]
    have hcount : ((List.range ops.size).filter fun j => !(listed.setIfInBounds i true).getD j true).length ≤ fuel := by
      have h1 : ((List.range ops.size).filter fun j => !(listed.setIfInBounds i true).getD j true).length + 1 ≤ ((List.range ops.size).filter fun j => !listed.getD j true).length := by
        have hp : ∀ j, (!(listed.setIfInBounds i true).getD j true) = ((!listed.getD j true) && decide (j ≠ i)) := by
          intro j
          simp only [Array.getD_eq_getD_getElem?, Array.getElem?_setIfInBounds]
          by_cases e : j = i
          · subst e; simp [hlt']
          · rw [if_neg (fun h => e h.symm)]; simp [e]
        have hle : ∀ (l : List Nat), (l.filter fun j => !(listed.setIfInBounds i true).getD j true).length ≤ (l.filter fun j => !listed.getD j true).length := by
          intro l
          induction l with
          | nil => simp
          | cons x l ihl =>
            simp only [List.filter_cons]
            have := hp x
            cases h5 : (!listed.getD x true) with
            | false => rw [h5] at this; simp at this; simp [this]; simpa using ihl
            | true =>
              cases h6 : (!(listed.setIfInBounds i true).getD x true) with
              | false => simp; have := ihl; simp at this; omega
              | true => simp; simpa using ihl
        have gen : ∀ (l : List Nat), i ∈ l → (l.filter fun j => !(listed.setIfInBounds i true).getD j true).length + 1 ≤ (l.filter fun j => !listed.getD j true).length := by
          intro l
          induction l with
          | nil => intro h; simp at h
          | cons x l ihl =>
            intro h
            simp only [List.filter_cons]
            by_cases e : x = i
            · subst e
              have h7 := hp x
              rw [hun] at h7
              simp only [Bool.not_false, Bool.true_and, ne_eq, not_true_eq_false, decide_false] at h7
              rw [h7, hun]
              simp only [Bool.false_eq_true, if_false, Bool.not_false, if_true, List.length_cons]
              have := hle l
              omega
            · have h2 := ihl (by rcases List.mem_cons.1 h with h | h; exact absurd h.symm e; exact h)
              have := hp x
              rw [decide_eq_true e, Bool.and_true] at this
              rw [this]
              cases (!listed.getD x true)
              · simpa using h2
              · simp only [if_true, List.length_cons]; omega
        exact gen _ hi1
      omega
    have conv : ∀ {r' : List Nat} {s' : DS} {ts' : Array Value} {w' : World} {φ' ψ' : Pl} {B' : Nat → Option Nat}, (∃ k rest, s'.hist = (k, s'.h) :: rest) → Inv P E call ops bs h0 φ0 w0 r' s' sf (fun j => if j = i then true else listed.getD j false) ts' w' φ' ψ' B' →
        wpAny P .any ops Q fuel (listed.setIfInBounds i true) ⟨ts', []⟩ w' := by
      intro r' s' ts' w' φ' ψ' B' hh' I'
      refine ih _ hh' (by simp [hsz]) hcount (r := r') (s := s') (φ := φ') (ψ := ψ') (B := B') ?_
      have : (fun j => (listed.setIfInBounds i true).getD j false) = (fun j => if j = i then true else listed.getD j false) := funext hset
      rw [this]; exact I'
    have main : if Region.wanted o (yielded ops ts) then o.wp P ⟨ts, []⟩ w (wpAny P .any ops Q fuel (listed.setIfInBounds i true)) Q else wpAny P .any ops Q fuel (listed.setIfInBounds i true) ((Act.mk ts []).put o.dst undef) w := by
      cases ha : anch E o with
      | true => exact I.runAnch hE hC hM hS hfull ho' hX ha hready fun r' s' ts' w' φ' ψ' hh' I' => conv hh' I'
      | false => exact I.runEarly hE hM hS hh hfull ho' hX ha hready fun c w' ψ' B' I' => conv hh I'
    unfold wpOp
    simp only [ho]
    split
    · rename_i hw; rw [if_pos hw] at main; exact .inl main
    · rename_i hw; rw [if_neg hw] at main; exact main

theorem regD_sound (hE : EnvOK P E) {call : CallF} (hC : CallsOK P call) (hM : CallMono call) {ops : Array Oper} {h h' : H} {φ : Pl} {w : World} (hR : Rel h φ w) {a a' : Tmps} {ts : Array Value} (hT : TR φ a ts)
    (he : regD E call ops.toList a h = some (a', h')) {Q : Exit → Act → World → Prop} (hQ : ∀ φ' ts' w', Rel h' φ' w' → TR φ' a' ts' → Step h φ w h' φ' w' → Q .normal ⟨ts', []⟩ w') (id : Nat) :
    (Code.region id ops true).wp P Q ⟨ts, []⟩ w := by
  unfold regD at he
  split at he
  split at he
  case h_2 => simp at he
  rename_i es fs hes _ hok
  split at he
  case h_2 => simp at he
  rename_i sf hgo
  split at he
  case h_2 => simp at he
  rename_i hd
  simp at he; obtain ⟨rfl, rfl⟩ := he
  have hS := Stat.of hok
  have hdone : sf.done + 1 = 2 ^ ops.toList.length := Nat.eq_of_beq_eq_true hd
  have hfull : ∀ j, j < ops.toList.length → sf.done.testBit j = true := by
    intro j hj
    have : sf.done = 2 ^ ops.toList.length - 1 := by omega
    rw [this, Nat.testBit_two_pow_sub_one]; simpa using hj
  refine wp_region_any hE.mixed ?_
  have hr : ∀ i, (Array.replicate ops.size false).getD i false = false := by
    intro i; simp [Array.getD_eq_getD_getElem?, Array.getElem?_replicate]; split <;> rfl
  refine Inv.any hE hC hM hS (h0 := h) (φ0 := φ) (w0 := { w with drawn := w.drawn + 1 }) hfull (fun φ' ts' w' g1 g2 g3 => hQ φ' ts' w' g1 g2 (g3.drawn' )) ops.size (Array.replicate ops.size false) (r := ordA (preds [] ops.toList) es fs) (s := ⟨0, a, h, [(ops.toList.length, h)]⟩) (φ := φ) (ψ := φ) (B := fun _ => none) ⟨_, _, rfl⟩ (by simp) ?_ ?_
  · refine Nat.le_trans (List.length_filter_le _ _) (by simp)
  · refine ⟨hgo, fun i hi => by simp at hi, fun i o hi => by rw [hr i] at hi; simp at hi, fun i hi => by rw [hr i] at hi; simp at hi, fun k o hi => by rw [hr k] at hi; simp at hi, hR.drawn _, Step.refl _ _ _, hT.size, fun t v hv _ => hT.get t v hv, fun j o hi => by rw [hr j] at hi; simp at hi, fun _ _ => rfl, fun n p hn hp => ?_, fun j j' b hi => by rw [hr j] at hi; simp at hi, fun j b hi => by rw [hr j] at hi; simp at hi⟩
    rw [hR.fresh n hn] at hp; simp at hp

end Go.Eng
end

section
namespace Go.Eng
variable {P : Program} {E : Env}

theorem res_sound (hE : EnvOK P E) {h : H} {φ : Pl} {w : World} (hR : Rel h φ w) {a : Tmps} {ts : Array Value} (hT : TR φ a ts) : ∀ {rs : List ResultVar} {l : List Value}, resA E h a rs = some l →
    ∃ m, (rs.mapM fun (r : ResultVar) => (match r with | .tmp t => pure (ts.getD t undef) | .cell p t => do loadVar t (← asAddr (ts.getD p undef)) : Sem Value)).run P w = .ok m w ∧ VRs φ l m
  | [], l, hl => by simp [resA] at hl; subst hl; exact ⟨[], by simp, .nil⟩
  | .tmp t :: rs, l, hl => by
    simp only [resA] at hl
    split at hl
    · rename_i v l' hv hl'
      simp at hl; subst hl
      obtain ⟨y, h1, h2⟩ := hT.get t v hv
      obtain ⟨m, h3, h4⟩ := res_sound hE hR hT hl'
      refine ⟨y :: m, ?_, .cons h2 h4⟩
      simp only [List.mapM_cons, Sem.run_bind, Sem.run_pure, Result.andThen_ok, h3, Array.getD_eq_getD_getElem?, h1, Option.getD_some]
      simp only [Array.getD_eq_getD_getElem?] at h3
      rw [h3]; rfl
    · simp at hl
  | .cell p t :: rs, l, hl => by
    simp only [resA] at hl
    split at hl
    · rename_i u hu
      split at hl
      · rename_i v l' hv hl'
        simp at hl; subst hl
        obtain ⟨y, h1, h2⟩ := hT.get p u hu
        obtain ⟨m, h3, h4⟩ := res_sound hE hR hT hl'
        obtain ⟨ad, k, rfl, h5, h6⟩ := load_sound hE hR hv h2
        refine ⟨k :: m, ?_, .cons h6 h4⟩
        rw [List.mapM_cons, Sem.run_bind]
        have hd : (do loadVar t (← asAddr (ts.getD p undef)) : Sem Value).run P w = .ok k w := by
          simp only [Sem.run_bind, Array.getD_eq_getD_getElem?, h1, Option.getD_some, asAddr, Sem.run_pure, Result.andThen_ok, h5]
        rw [hd, Result.andThen_ok, Sem.run_bind, h3]
        rfl
      · simp at hl
    · simp at hl

theorem result_sound (hE : EnvOK P E) {h : H} {φ : Pl} {w : World} (hR : Rel h φ w) {a : Tmps} {ts : Array Value} (hT : TR φ a ts) {fn : Func} {v : Value} (hv : resultA E h a fn.results.toList = some v) :
    ∃ c, (results fn ts).run P w = .ok c w ∧ VR φ v c := by
  unfold resultA at hv
  have hrun : ∀ {l : List Value}, resA E h a fn.results.toList = some l → ∃ m, VRs φ l m ∧ (results fn ts).run P w = .ok (if h : (⟨m⟩ : Array Value).size = 1 then (⟨m⟩ : Array Value)[0] else .tuple ⟨m⟩) w := by
    intro l hl
    obtain ⟨m, h1, h2⟩ := res_sound hE hR hT hl
    refine ⟨m, h2, ?_⟩
    unfold results
    rw [Array.mapM_eq_mapM_toList, ← bind_pure_comp]
    simp only [Sem.run_bind]
    exact (congrArg (fun r => Result.andThen (Result.andThen r _) _) h1).trans rfl
  split at hv
  · rename_i v' hl
    simp at hv; subst hv
    obtain ⟨m, h1, h2⟩ := hrun hl
    cases h1 with
    | cons h3 h4 => cases h4; exact ⟨_, h2, h3⟩
  · rename_i l hne hl
    simp at hv; subst hv
    obtain ⟨m, h1, h2⟩ := hrun hl
    have hlen : ¬ (⟨m⟩ : Array Value).size = 1 := by
      intro h5
      have h6 := h1.length
      simp at h5
      rw [h5] at h6
      obtain ⟨x, rfl⟩ := List.length_eq_one_iff.1 h6
      exact hne x rfl
    rw [dif_neg hlen] at h2
    exact ⟨_, h2, .tuple h1⟩
  · simp at hv

theorem enterT_get : ∀ (args : List Value) (i : Nat) (m : Tr Value) (t : Nat), (enterT args i m).get t = if i ≤ t ∧ t < i + args.length then args[t - i]? else m.get t
  | [], i, m, t => by simp [enterT]; omega
  | v :: r, i, m, t => by
    rw [enterT, enterT_get r (i + 1), Tr.get_set]
    by_cases e : t = i
    · subst e
      rw [if_neg (by omega), if_pos rfl, if_pos (by simp)]
      simp
    · by_cases h : i + 1 ≤ t ∧ t < i + 1 + r.length
      · rw [if_pos h, if_pos (by simp; omega)]
        have : t - i = (t - (i + 1)) + 1 := by omega
        rw [this]; simp
      · rw [if_neg h, if_neg e, if_neg (by rw [List.length_cons]; omega)]

theorem enter_TR {φ : Pl} {vs cs : List Value} (h : VRs φ vs cs) (n : Nat) : TR φ ⟨vs.length + (n - vs.length), enterT vs 0 .nil⟩ (cs.toArray ++ Array.replicate (n - cs.toArray.size) undef) := {
  size := by have := h.length; simp [this]
  get := fun t v hv => by
    rw [enterT_get] at hv
    split at hv
    · rename_i ht
      simp at hv
      obtain ⟨y, h1, h2⟩ := h.get hv
      refine ⟨y, ?_, h2⟩
      have := (List.getElem?_eq_some_iff.1 h1).1
      rw [Array.getElem?_append_left (by simpa using this)]
      simpa using h1
    · simp [Tr.get_nil] at hv }

/-! ### Loops, as far as they are run -/
def LoopW (P : Program) (c : Code) (Q : Exit → Act → World → Prop) (a : Act) (w : World) : Prop :=
  ∀ (b : Frame) (k : List Item) (cs : List Frame), ∃ e a' w', Q e a' w' ∧ Arrives P (lone (b.at a (.code c :: .inLoop c :: k)) cs w) b k cs e a' w'

theorem LoopW.wp {c : Code} {Q : Exit → Act → World → Prop} {a : Act} {w : World} (h : LoopW P c Q a w) : (Code.loop c).wp P Q a w := by
  intro b k cs
  obtain ⟨e, a', w', h1, h2⟩ := h b k cs
  exact ⟨e, a', w', h1, .of_steps (.one step_loop) h2⟩

theorem LoopW.round {c : Code} {Q : Exit → Act → World → Prop} {a : Act} {w : World} (h : c.wp P (Exit.then (LoopW P c Q) Q) a w) : LoopW P c Q a w := by
  intro b k cs
  obtain ⟨e, a₁, w₁, hq, harr⟩ := h b (.inLoop c :: k) cs
  cases e with
  | normal =>
    obtain ⟨e₂, a₂, w₂, hq₂, harr₂⟩ := hq b k cs
    exact ⟨e₂, a₂, w₂, hq₂, .of_steps (Steps.trans harr (.one step_inLoop)) harr₂⟩
  | exit id => exact ⟨_, a₁, w₁, hq, .pass (x := .inLoop c) rfl (fun _ _ => .inl (by simp)) harr⟩
  | goto l => exact ⟨_, a₁, w₁, hq, .pass (x := .inLoop c) rfl (fun _ _ => .inl (by simp)) harr⟩
  | ret => exact ⟨_, a₁, w₁, hq, .pass (x := .inLoop c) rfl (fun _ _ => .inl (by simp)) harr⟩
  | panic ch => exact ⟨_, a₁, w₁, hq, .pass (x := .inLoop c) rfl (fun _ _ => .inl (by simp)) harr⟩
  | outgrown => exact ⟨_, a₁, w₁, hq, .pass (x := .inLoop c) rfl (fun _ _ => .inl (by simp)) harr⟩

def X.out : X → Exit
  | .normal => .normal
  | .exit id => .exit id
  | .ret => .ret

def RunOK (P : Program) (E : Env) (n : Nat) : Prop := ∀ (c : Code) (a : Tmps) (h : H) (x : X) (a' : Tmps) (h' : H), run E n c a h = some (x, a', h') → h.next ≤ h'.next ∧
  ∀ (φ : Pl) (w : World) (ts : Array Value), Rel h φ w → TR φ a ts → ∀ (Q : Exit → Act → World → Prop), (∀ φ' ts' w', Rel h' φ' w' → TR φ' a' ts' → Step h φ w h' φ' w' → Q x.out ⟨ts', []⟩ w') →
    c.wp P Q ⟨ts, []⟩ w ∧ ∀ b, c = .loop b → LoopW P b Q ⟨ts, []⟩ w

theorem sortedA_next {et : Nat} {es : List MapEntry} {c : Nat} {h h' : H} {v : Value} (he : sortedA et es c h = some (v, h')) : h.next ≤ h'.next := by
  unfold sortedA at he
  split at he
  · split at he <;> (simp at he; obtain ⟨_, rfl⟩ := he; first | exact Nat.le_refl _ | exact Nat.le_succ _)
  · simp at he

theorem wroteA_next (tb e o : Nat) (l : List UInt8) (h : H) : (wroteA tb e o l h).next = h.next + 1 := rfl
theorem strsA_next {t : Nat} {l : List (List UInt8)} {h h' : H} {v : Value} (he : strsA t l h = some (v, h')) : h.next ≤ h'.next := by
  simp only [strsA, Option.some.injEq, Prod.mk.injEq] at he
  obtain ⟨_, rfl⟩ := he
  exact Nat.le_succ _
theorem hGrow_next {tb e : Nat} {args : List Value} {h h' : H} {v : Value} (he : hGrow tb e args h = some (v, h')) : h.next ≤ h'.next := by
  unfold hGrow at he
  repeat' (split at he)
  all_goals first
    | (simp at he; done)
    | (simp at he; obtain ⟨_, rfl⟩ := he; first | exact Nat.le_refl _ | exact Nat.le_succ _)
theorem hWrite_next {tb e : Nat} {args : List Value} {h h' : H} {v : Value} (he : hWrite tb e args h = some (v, h')) : h.next ≤ h'.next := by
  unfold hWrite at he
  repeat' (split at he)
  all_goals first
    | (simp at he; done)
    | (simp at he; obtain ⟨_, rfl⟩ := he; first | exact Nat.le_refl _ | exact Nat.le_succ _)
theorem hLen_next {tb e : Nat} {args : List Value} {h h' : H} {v : Value} (he : hLen tb e args h = some (v, h')) : h.next ≤ h'.next := by
  unfold hLen at he
  repeat' (split at he)
  all_goals first
    | (simp at he; done)
    | (simp at he; obtain ⟨_, rfl⟩ := he; exact Nat.le_refl _)
theorem hStr_next {tb e : Nat} {args : List Value} {h h' : H} {v : Value} (he : hStr tb e args h = some (v, h')) : h.next ≤ h'.next := by
  unfold hStr at he
  repeat' (split at he)
  all_goals first
    | (simp at he; done)
    | (simp at he; obtain ⟨_, rfl⟩ := he; exact Nat.le_refl _)
theorem hSplit_next {t : Nat} {args : List Value} {h h' : H} {v : Value} (he : hSplit t args h = some (v, h')) : h.next ≤ h'.next := by
  unfold hSplit at he
  repeat' (split at he)
  all_goals first
    | exact strsA_next he
    | (simp at he; done)
theorem hFields_next {g t : Nat} {args : List Value} {h h' : H} {v : Value} (he : hFields g t args h = some (v, h')) : h.next ≤ h'.next := by
  unfold hFields at he
  repeat' (split at he)
  all_goals first
    | exact strsA_next he
    | (simp at he; done)
theorem hParse_next {t : Nat} {args : List Value} {h h' : H} {v : Value} (he : hParse t args h = some (v, h')) : h.next ≤ h'.next := by
  unfold hParse at he
  repeat' (split at he)
  all_goals first
    | (simp at he; done)
    | (simp at he; obtain ⟨_, rfl⟩ := he; exact Nat.le_refl _)
theorem hDec_next {o b : Nat} {args : List Value} {h h' : H} {v : Value} (he : hDec o b args h = some (v, h')) : h.next ≤ h'.next := by
  unfold hDec at he
  repeat' (split at he)
  all_goals first
    | (simp at he; done)
    | (simp at he; obtain ⟨_, rfl⟩ := he; exact Nat.le_refl _)
theorem hItoa_next {o b : Nat} {args : List Value} {h h' : H} {v : Value} (he : hItoa o b args h = some (v, h')) : h.next ≤ h'.next := by
  unfold hItoa at he
  repeat' (split at he)
  all_goals first
    | (simp at he; done)
    | (simp at he; obtain ⟨_, rfl⟩ := he; exact Nat.le_refl _)

theorem hMore_next {k : Nat} {args : List Value} {h h' : H} {v : Value} (he : hMore k args h = some (v, h')) : h.next ≤ h'.next := by
  unfold hMore hParseU hRepeat hReplace hAny hCount hIndex at he
  repeat' (split at he)
  all_goals first
    | (simp at he; done)
    | (simp at he; obtain ⟨_, rfl⟩ := he; first | exact Nat.le_refl _ | exact Nat.le_succ _)

theorem hGen_next {k : Nat} {args : List Value} {h h' : H} {v : Value} (he : hGen k args h = some (v, h')) : h.next ≤ h'.next := by
  unfold hGen at he
  split at he
  · exact hMore_next he
  · exact hDec_next he
  · unfold hKeys at he
    repeat' (split at he)
    all_goals first
      | (simp at he; done)
      | (simp at he; obtain ⟨_, rfl⟩ := he; exact Nat.le_succ _)
  · unfold hSorted at he
    repeat' (split at he)
    all_goals first
      | (simp at he; done)
      | exact sortedA_next he
  · exact hWrite_next he
  · exact hGrow_next he
  · exact hLen_next he
  · exact hStr_next he
  · exact hSplit_next he
  · exact hFields_next he
  · exact hParse_next he
  · exact hItoa_next he
  · simp at he

theorem hook_next {k : Nat} {args : List Value} {h h' : H} {v : Value} (he : hook k args h = some (v, h')) : h.next ≤ h'.next := by
  unfold hook at he
  split at he
  case h_5 => exact hGen_next he
  case h_1 =>
    unfold hAdd at he
    repeat' (split at he)
    all_goals first
      | (simp at he; done)
      | (simp at he; obtain ⟨_, rfl⟩ := he; exact Nat.le_refl _)
  case h_2 =>
    unfold hSub at he
    split at he
    · split at he
      · simp only [Option.some.injEq, Prod.mk.injEq] at he; obtain ⟨_, rfl⟩ := he; exact Nat.le_refl _
      · simp at he
    · simp at he
  case h_3 =>
    unfold hClone at he
    repeat' (split at he)
    all_goals first
      | (simp at he; done)
      | (simp at he; obtain ⟨_, rfl⟩ := he; exact Nat.le_succ _)
  case h_4 =>
    unfold hTrue at he
    repeat' (split at he)
    all_goals first
      | (simp at he; done)
      | (simp at he; obtain ⟨_, rfl⟩ := he; exact Nat.le_refl _)

theorem mono_of_run {n : Nat} (hr : RunOK P E n) : CallMono (callN E n) := by
  intro f vs h v h' he
  unfold callN at he
  split at he
  · exact hook_next he
  · split at he
    · split at he
      · split at he
        · simp at he
        · rename_i hrun
          split at he
          · simp at he; obtain ⟨_, rfl⟩ := he
            exact (hr _ _ _ _ _ _ hrun).1
          · simp at he
        · simp at he
      · simp at he
    · simp at he

theorem calls_of_run (hE : EnvOK P E) {n : Nat} (hr : RunOK P E n) : CallsOK P (callN E n) := by
  intro f vs h v h' he φ w cs hR hv
  unfold callN at he
  split at he
  · rename_i k hk
    exact hE.hooks f k hk vs h v h' he φ w cs hR hv
  · split at he
    · rename_i fn hf
      split at he
      · rename_i b hb
        split at he
        · simp at he
        · rename_i x a' h2 hne hrun
          split at he
          · rename_i u hres
            simp at he; obtain ⟨rfl, rfl⟩ := he
            obtain ⟨hf1, hf2⟩ := hE.func f fn hf
            right
            refine ⟨?_, ?_⟩
            · simp only [callFunc, Sem.run_bind, program, Sem.run, Result.andThen_ok, hf1, hf2, Bool.false_eq_true, if_false, hb, Option.isNone]
              rfl
            · refine calls_of_wp hf1 hb ?_
              refine ((hr _ _ _ _ _ _ hrun).2 φ w _ hR (enter_TR hv fn.ntmps) _ ?_).1
              intro φ' ts' w' g1 g2 g3
              obtain ⟨c, g4, g5⟩ := result_sound hE g1 g2 hres
              cases x with
              | normal => exact ⟨rfl, c, g4, c, φ', rfl, g5, g1, g3⟩
              | exit id => exact (hne id rfl).elim
              | ret => exact ⟨rfl, c, g4, c, φ', rfl, g5, g1, g3⟩
          · simp at he
        · simp at he
      · simp at he
    · simp at he

theorem run_sound (hE : EnvOK P E) : ∀ n, RunOK P E n
  | 0 => by intro c a h x a' h' he; simp [run] at he
  | n + 1 => by
    have ih := run_sound hE n
    have hC := calls_of_run hE ih
    have hM := mono_of_run ih
    intro c a h x a' h' he
    cases c with
    | skip =>
      simp [run] at he; obtain ⟨rfl, rfl, rfl⟩ := he
      exact ⟨Nat.le_refl _, fun φ w ts hR hT Q hQ => ⟨wp_skip (hQ φ ts w hR hT (Step.refl _ _ _)), fun b hb => by simp at hb⟩⟩
    | label l =>
      simp [run] at he; obtain ⟨rfl, rfl, rfl⟩ := he
      exact ⟨Nat.le_refl _, fun φ w ts hR hT Q hQ => ⟨wp_label (hQ φ ts w hR hT (Step.refl _ _ _)), fun b hb => by simp at hb⟩⟩
    | exit id =>
      simp [run] at he; obtain ⟨rfl, rfl, rfl⟩ := he
      exact ⟨Nat.le_refl _, fun φ w ts hR hT Q hQ => ⟨wp_exit (hQ φ ts w hR hT (Step.refl _ _ _)), fun b hb => by simp at hb⟩⟩
    | ret =>
      simp [run] at he; obtain ⟨rfl, rfl, rfl⟩ := he
      exact ⟨Nat.le_refl _, fun φ w ts hR hT Q hQ => ⟨wp_ret (hQ φ ts w hR hT (Step.refl _ _ _)), fun b hb => by simp at hb⟩⟩
    | region id os dr =>
      have hcall : run E (n + 1) (.region id os dr) a h = (match (match dr with | true => regD | false => fun E call all => opsA E call all all) E (callN E n) os.toList a h with
        | some (a, h) => some (.normal, a, h)
        | none => none) := rfl
      rw [hcall] at he
      split at he
      · rename_i a1 h1 hreg
        simp at he; obtain ⟨rfl, rfl, rfl⟩ := he
        refine ⟨?_, fun φ w ts hR hT Q hQ => ⟨?_, fun b hb => by simp at hb⟩⟩
        · cases dr with
          | true =>
            have hreg : regD E (callN E n) os.toList a h = some (a1, h1) := hreg
            unfold regD at hreg
            dsimp only at hreg
            split at hreg
            · split at hreg
              · rename_i hgo
                split at hreg
                · simp at hreg; obtain ⟨rfl, rfl⟩ := hreg
                  exact goD_next hM hgo
                · simp at hreg
              · simp at hreg
            · simp at hreg
          | false =>
            have key : ∀ (l : List Oper) (a a' : Tmps) (h h' : H), opsA E (callN E n) os.toList l a h = some (a', h') → h.next ≤ h'.next := by
              intro l
              induction l with
              | nil => intro a a' h h' hl; simp [opsA] at hl; obtain ⟨rfl, rfl⟩ := hl; exact Nat.le_refl _
              | cons o l ihl =>
                intro a a' h h' hl
                simp only [opsA] at hl
                split at hl
                · rename_i hone; exact Nat.le_trans (oneA_next hM hone) (ihl _ _ _ _ hl)
                · simp at hl
            exact key _ _ _ _ _ hreg
        · cases dr with
          | true => exact regD_sound hE hC hM hR hT hreg hQ id
          | false => exact wp_region_list (opsA_sound hE hC _ hR hT hreg hQ)
      · simp at he
    | seq c1 c2 =>
      simp only [run] at he
      split at he
      · rename_i a1 h1 hr1
        obtain ⟨m1, s1⟩ := ih _ _ _ _ _ _ hr1
        obtain ⟨m2, s2⟩ := ih _ _ _ _ _ _ he
        refine ⟨Nat.le_trans m1 m2, fun φ w ts hR hT Q hQ => ⟨wp_seq (s1 φ w ts hR hT _ fun φ1 ts1 w1 g1 g2 g3 => ?_).1, fun b hb => by simp at hb⟩⟩
        exact (s2 φ1 w1 ts1 g1 g2 Q fun φ2 ts2 w2 k1 k2 k3 => hQ φ2 ts2 w2 k1 k2 (g3.trans k3)).1
      · rename_i hne
        obtain ⟨m1, s1⟩ := ih _ _ _ _ _ _ he
        refine ⟨m1, fun φ w ts hR hT Q hQ => ⟨wp_seq (s1 φ w ts hR hT _ fun φ1 ts1 w1 g1 g2 g3 => ?_).1, fun b hb => by simp at hb⟩⟩
        cases x with
        | normal => exact absurd he (hne a' h')
        | exit id => exact hQ φ1 ts1 w1 g1 g2 g3
        | ret => exact hQ φ1 ts1 w1 g1 g2 g3
    | cond cd c1 c2 =>
      simp only [run] at he
      split at he
      · rename_i hcv
        obtain ⟨m1, s1⟩ := ih _ _ _ _ _ _ he
        refine ⟨m1, fun φ w ts hR hT Q hQ => ⟨?_, fun b hb => by simp at hb⟩⟩
        have hv := ev_sound (ds := []) hT hcv
        generalize hce : (Act.mk ts []).eval cd = cv at hv
        cases hv
        exact wp_cond_true hce (s1 φ w ts hR hT Q hQ).1
      · rename_i hcv
        obtain ⟨m1, s1⟩ := ih _ _ _ _ _ _ he
        refine ⟨m1, fun φ w ts hR hT Q hQ => ⟨?_, fun b hb => by simp at hb⟩⟩
        have hv := ev_sound (ds := []) hT hcv
        generalize hce : (Act.mk ts []).eval cd = cv at hv
        cases hv
        exact wp_cond_false hce (s1 φ w ts hR hT Q hQ).1
      · simp at he
    | block id b =>
      simp only [run] at he
      split at he
      · rename_i j a1 h1 hr1
        obtain ⟨m1, s1⟩ := ih _ _ _ _ _ _ hr1
        split at he
        · rename_i hj
          have hj := Nat.eq_of_beq_eq_true hj
          subst hj
          simp at he; obtain ⟨rfl, rfl, rfl⟩ := he
          refine ⟨m1, fun φ w ts hR hT Q hQ => ⟨wp_block (s1 φ w ts hR hT _ fun φ1 ts1 w1 g1 g2 g3 => ?_).1, fun b hb => by simp at hb⟩⟩
          simp only [X.out, Exit.inBlock, if_true]
          exact hQ φ1 ts1 w1 g1 g2 g3
        · rename_i hj
          have hj : ¬ j = id := fun e => by subst e; simp at hj
          simp at he; obtain ⟨rfl, rfl, rfl⟩ := he
          refine ⟨m1, fun φ w ts hR hT Q hQ => ⟨wp_block (s1 φ w ts hR hT _ fun φ1 ts1 w1 g1 g2 g3 => ?_).1, fun b hb => by simp at hb⟩⟩
          simp only [X.out, Exit.inBlock, if_neg hj]
          exact hQ φ1 ts1 w1 g1 g2 g3
      · rename_i hne
        obtain ⟨m1, s1⟩ := ih _ _ _ _ _ _ he
        refine ⟨m1, fun φ w ts hR hT Q hQ => ⟨wp_block (s1 φ w ts hR hT _ fun φ1 ts1 w1 g1 g2 g3 => ?_).1, fun b hb => by simp at hb⟩⟩
        cases x with
        | normal => exact hQ φ1 ts1 w1 g1 g2 g3
        | exit id => exact absurd he (hne id a' h')
        | ret => exact hQ φ1 ts1 w1 g1 g2 g3
    | loop b =>
      simp only [run] at he
      have fin : h.next ≤ h'.next ∧ ∀ (φ : Pl) (w : World) (ts : Array Value), Rel h φ w → TR φ a ts → ∀ (Q : Exit → Act → World → Prop), (∀ φ' ts' w', Rel h' φ' w' → TR φ' a' ts' → Step h φ w h' φ' w' → Q x.out ⟨ts', []⟩ w') → LoopW P b Q ⟨ts, []⟩ w := by
        split at he
        · rename_i a1 h1 hr1
          obtain ⟨m1, s1⟩ := ih _ _ _ _ _ _ hr1
          obtain ⟨m2, s2⟩ := ih _ _ _ _ _ _ he
          refine ⟨Nat.le_trans m1 m2, fun φ w ts hR hT Q hQ => LoopW.round (s1 φ w ts hR hT _ fun φ1 ts1 w1 g1 g2 g3 => ?_).1⟩
          exact (s2 φ1 w1 ts1 g1 g2 Q fun φ2 ts2 w2 k1 k2 k3 => hQ φ2 ts2 w2 k1 k2 (g3.trans k3)).2 b rfl
        · rename_i hne
          obtain ⟨m1, s1⟩ := ih _ _ _ _ _ _ he
          refine ⟨m1, fun φ w ts hR hT Q hQ => LoopW.round (s1 φ w ts hR hT _ fun φ1 ts1 w1 g1 g2 g3 => ?_).1⟩
          cases x with
          | normal => exact absurd he (hne a' h')
          | exit id => exact hQ φ1 ts1 w1 g1 g2 g3
          | ret => exact hQ φ1 ts1 w1 g1 g2 g3
      exact ⟨fin.1, fun φ w ts hR hT Q hQ => ⟨(fin.2 φ w ts hR hT Q hQ).wp, fun b' hb => by simp at hb; subst hb; exact fin.2 φ w ts hR hT Q hQ⟩⟩
    | scope b =>
      simp only [run] at he
      obtain ⟨m1, s1⟩ := ih _ _ _ _ _ _ he
      refine ⟨m1, fun φ w ts hR hT Q hQ => ⟨wp_scope_straight (s1 φ w ts hR hT _ fun φ1 ts1 w1 g1 g2 g3 => ?_).1, fun b hb => by simp at hb⟩⟩
      cases x with
      | normal => exact hQ φ1 ts1 w1 g1 g2 g3
      | exit id => exact hQ φ1 ts1 w1 g1 g2 g3
      | ret => exact hQ φ1 ts1 w1 g1 g2 g3
    | rangeFunc f p as b => simp [run] at he
    | goto l => simp [run] at he
    | refuse s => simp [run] at he

open Go.RowKit in
theorem Step.below {φ : Pl} {w : World} {h' : H} {φ' : Pl} {w' : World} (h : Step H.empty φ w h' φ' w') : Below w.heap.size w w' :=
  ⟨h.os, h.tape, h.output, h.size, fun k hk => h.frame k hk fun ⟨o, x, p, h1, _⟩ => by simp [H.empty, H.get, Tr.get_nil] at h1⟩

end Go.Eng
end

section
namespace Go.Eng
variable {E : Env}

theorem pv_some {v : Option Value} {h : H} {r : Value × H} (e : pv v h = some r) : v = some r.1 ∧ r.2 = h := by
  unfold pv at e; split at e
  · simp at e; subst e; exact ⟨rfl, rfl⟩
  · simp at e

theorem opA_pure {call : CallF} {op : Op} {vs : List Value} {h : H} {r : Value × H} (hc : cls E op = .pure) (h1 : pureA E op vs = some r.1) (h2 : r.2 = h) : opA E call op vs h = some r := by
  unfold opA; rw [hc]; simp only [h1]; subst h2; rfl

theorem opA_fpure {call : CallF} {op : Op} {vs : List Value} {h : H} {r : Value × H} (hc : cls E op = .pure) (h1 : fPure op E vs h = some r) : opA E call op vs h = some r := by
  obtain ⟨a, b⟩ := pv_some h1
  exact opA_pure hc a b

theorem opA_new {call : CallF} {op : Op} {vs : List Value} {h : H} {r : Value × H} (hc : cls E op = .new) (h1 : fNew op E vs h = some r) : opA E call op vs h = some r := by
  unfold opA; rw [hc]; exact h1

theorem opA_eff {call : CallF} {op : Op} {vs : List Value} {h : H} {r : Value × H} (hc : cls E op = .eff) (hn : isCall op = false) (h1 : effA E op vs h = some r) : opA E call op vs h = some r := by
  unfold opA; rw [hc]
  simp only
  split
  · simp [isCall] at hn
  · exact h1

theorem isShift_false {op : BinOp} (h : isShift op = false) : op ≠ .shl ∧ op ≠ .shr := by
  constructor <;> (rintro rfl; simp [isShift] at h)

theorem iopK_abin {op : BinOp} {t : TypeId} {k k' : IntKind} {a b : Int} {v : Value} (h : iopK op k k' a b = some v) : abin E op t (.int k a) (.int k' b) = some v := by
  unfold iopK at h
  split at h
  · rename_i hs
    cases op <;> simp [isShift] at hs <;> exact h
  · rename_i hs
    split at h
    · rename_i hk
      have hk' : decide (k = k') = true := hk
      cases op <;> simp [isShift] at hs <;> (simp only [iop] at h; simp only [abin, hk']; exact h)
    · simp at h

theorem u64_lt {x : Nat} (h : Nat.blt x 18446744073709551616 = true) : x < 18446744073709551616 := by
  have := Nat.le_of_ble_eq_true h; omega

theorem wrap_nat (n : Nat) : IntKind.u64.wrap (Int.ofNat n) = Int.ofNat (n % 18446744073709551616) := by
  rw [IntKind.wrap_u64]; show (n : Int) % _ = _; simp

theorem bits_of {n : Nat} (h : n < 18446744073709551616) : (BitVec.ofInt IntKind.u64.bits (Int.ofNat n)).toNat = n := by
  show (BitVec.ofInt 64 (n : Int)).toNat = n
  rw [BitVec.ofInt_natCast, BitVec.toNat_ofNat, Nat.mod_eq_of_lt h]

theorem bin64_abin {op : BinOp} {t : TypeId} {a b : Nat} {v : Value} (h : bin64 op a b = some v) : abin E op t (.int .u64 (Int.ofNat a)) (.int .u64 (Int.ofNat b)) = some v := by
  cases op with
  | add =>
    simp only [bin64, u64v, Option.some.injEq] at h; subst h
    simp only [abin, decide_true]
    rw [show (Int.ofNat a + Int.ofNat b) = Int.ofNat (a + b) from rfl, wrap_nat]; rfl
  | mul =>
    simp only [bin64, u64v, Option.some.injEq] at h; subst h
    simp only [abin, decide_true]
    rw [show (Int.ofNat a * Int.ofNat b) = Int.ofNat (a * b) from rfl, wrap_nat]; rfl
  | sub =>
    simp only [bin64, chk2] at h
    split at h
    · rename_i ha hb
      have ha := u64_lt ha; have hb := u64_lt hb
      simp only [u64v, Option.some.injEq] at h; subst h
      simp only [abin, decide_true]
      congr 2
      rw [IntKind.wrap_u64]
      show ((a : Int) - (b : Int)) % 18446744073709551616 = ((Nat.mod (Nat.sub (Nat.add a 18446744073709551616) b) 18446744073709551616 : Nat) : Int)
      show ((a : Int) - (b : Int)) % 18446744073709551616 = (((a + 18446744073709551616 - b) % 18446744073709551616 : Nat) : Int)
      omega
    · simp at h
  | and =>
    simp only [bin64, chk2] at h
    split at h
    · rename_i ha hb
      have ha := u64_lt ha; have hb := u64_lt hb
      simp only [u64v, Option.some.injEq] at h; subst h
      simp only [abin, decide_true, Op.intBits, pureRun, pure]
      congr 2
      have : ((BitVec.ofInt IntKind.u64.bits (Int.ofNat a)) &&& (BitVec.ofInt IntKind.u64.bits (Int.ofNat b))).toNat = a &&& b := by
        rw [BitVec.toNat_and, bits_of ha, bits_of hb]
      rw [this]
      have hl : a &&& b < 18446744073709551616 := Nat.lt_of_le_of_lt Nat.and_le_left ha
      show IntKind.u64.wrap (Int.ofNat (a &&& b)) = _
      rw [wrap_nat, Nat.mod_eq_of_lt hl]; rfl
    · simp at h
  | or =>
    simp only [bin64, chk2] at h
    split at h
    · rename_i ha hb
      have ha := u64_lt ha; have hb := u64_lt hb
      simp only [u64v, Option.some.injEq] at h; subst h
      simp only [abin, decide_true, Op.intBits, pureRun, pure]
      congr 2
      have : ((BitVec.ofInt IntKind.u64.bits (Int.ofNat a)) ||| (BitVec.ofInt IntKind.u64.bits (Int.ofNat b))).toNat = a ||| b := by
        rw [BitVec.toNat_or, bits_of ha, bits_of hb]
      rw [this]
      have hl : a ||| b < 2 ^ 64 := Nat.or_lt_two_pow (by simpa using ha) (by simpa using hb)
      show IntKind.u64.wrap (Int.ofNat (a ||| b)) = _
      rw [wrap_nat, Nat.mod_eq_of_lt (by simpa using hl)]; rfl
    · simp at h
  | xor =>
    simp only [bin64, chk2] at h
    split at h
    · rename_i ha hb
      have ha := u64_lt ha; have hb := u64_lt hb
      simp only [u64v, Option.some.injEq] at h; subst h
      simp only [abin, decide_true, Op.intBits, pureRun, pure]
      congr 2
      have : ((BitVec.ofInt IntKind.u64.bits (Int.ofNat a)) ^^^ (BitVec.ofInt IntKind.u64.bits (Int.ofNat b))).toNat = a ^^^ b := by
        rw [BitVec.toNat_xor, bits_of ha, bits_of hb]
      rw [this]
      have hl : a ^^^ b < 2 ^ 64 := Nat.xor_lt_two_pow (by simpa using ha) (by simpa using hb)
      show IntKind.u64.wrap (Int.ofNat (a ^^^ b)) = _
      rw [wrap_nat, Nat.mod_eq_of_lt (by simpa using hl)]; rfl
    · simp at h
  | shr =>
    simp only [bin64, u64v, Option.some.injEq] at h; subst h
    simp only [abin, Op.shift]
    rw [if_neg (by show ¬ ((b : Int) < 0); omega)]
    simp only [pureRun, pure]
    congr 2
    show ((a : Int)).fdiv (2 ^ min b 64) = ((a / 2 ^ min b 64 : Nat) : Int)
    rw [show ((2 : Int) ^ min b 64) = ((2 ^ min b 64 : Nat) : Int) by simp, Int.fdiv_eq_ediv_of_nonneg _ (Int.natCast_nonneg _)]
    rfl
  | shl =>
    simp only [bin64, u64v, Option.some.injEq] at h; subst h
    simp only [abin, Op.shift]
    rw [if_neg (by show ¬ ((b : Int) < 0); omega)]
    simp only [pureRun, pure]
    congr 2
  | eql =>
    simp only [bin64, Option.some.injEq] at h; subst h
    simp only [abin, decide_true]
    congr 2
    rw [Bool.eq_iff_iff]
    show ((Int.ofNat a == Int.ofNat b) = true) ↔ (Nat.beq a b = true)
    rw [Nat.beq_eq]; simp; omega
  | neq =>
    simp only [bin64, Option.some.injEq] at h; subst h
    simp only [abin, decide_true]
    congr 2
    show (!(Int.ofNat a == Int.ofNat b)) = !Nat.beq a b
    congr 1
    rw [Bool.eq_iff_iff]
    show ((Int.ofNat a == Int.ofNat b) = true) ↔ (Nat.beq a b = true)
    rw [Nat.beq_eq]; simp; omega
  | lss =>
    simp only [bin64, Option.some.injEq] at h; subst h
    simp only [abin, decide_true]
    congr 2
    show decide ((a : Int) < (b : Int)) = Nat.blt a b
    rw [Bool.eq_iff_iff, Nat.blt_eq]; simp
  | leq =>
    simp only [bin64, Option.some.injEq] at h; subst h
    simp only [abin, decide_true]
    congr 2
    show decide ((a : Int) ≤ (b : Int)) = Nat.ble a b
    rw [Bool.eq_iff_iff, Nat.ble_eq]; simp
  | gtr =>
    simp only [bin64, Option.some.injEq] at h; subst h
    simp only [abin, decide_true]
    congr 2
    show decide ((a : Int) > (b : Int)) = Nat.blt b a
    rw [Bool.eq_iff_iff, Nat.blt_eq]; simp
  | geq =>
    simp only [bin64, Option.some.injEq] at h; subst h
    simp only [abin, decide_true]
    congr 2
    show decide ((a : Int) ≥ (b : Int)) = Nat.ble b a
    rw [Bool.eq_iff_iff, Nat.ble_eq]; simp
  | quo => exact iopK_abin h
  | rem => exact iopK_abin h
  | andNot => exact iopK_abin h

theorem fBin_pure {op : BinOp} {t : TypeId} {x y : Operand} {u : TypeId} {vs : List Value} {h : H} {r : Value × H} (h1 : fBin op t x y E vs h = some r) : pureA E (.binOp op t x y u) vs = some r.1 ∧ r.2 = h := by
  unfold fBin at h1
  split at h1
  · rename_i x y
    split at h1
    · rename_i k a
      split at h1
      · rename_i k' b
        split at h1
        · rename_i a b
          split at h1
          · obtain ⟨e1, e2⟩ := pv_some h1; exact ⟨by simp only [pureA, abin2]; exact bin64_abin e1, e2⟩
          · obtain ⟨e1, e2⟩ := pv_some h1; exact ⟨by simp only [pureA, abin2]; exact iopK_abin e1, e2⟩
        · obtain ⟨e1, e2⟩ := pv_some h1; exact ⟨by simp only [pureA, abin2]; exact iopK_abin e1, e2⟩
      · simp at h1
    · obtain ⟨e1, e2⟩ := pv_some h1; exact ⟨e1, e2⟩
  · simp at h1

theorem opF_imp {call : CallF} {op : Op} {vs : List Value} {h : H} {r : Value × H} (hn : isCall op = false) (h1 : opF op E vs h = some r) : opA E call op vs h = some r := by
  cases op with
  | move x =>
    simp only [opF] at h1; unfold fId at h1
    split at h1
    · simp at h1; subst h1; exact opA_pure rfl rfl rfl
    · simp at h1
  | assign x =>
    simp only [opF] at h1; unfold fId at h1
    split at h1
    · simp at h1; subst h1; exact opA_pure rfl rfl rfl
    · simp at h1
  | pick c x y =>
    simp only [opF] at h1; unfold fPick at h1
    split at h1
    · split at h1 <;> (simp at h1; subst h1; exact opA_pure rfl rfl rfl)
    · simp at h1
  | alloc t =>
    simp only [opF] at h1; unfold fAlloc at h1
    split at h1
    · split at h1
      · exact opA_new rfl h1
      · rename_i hbt
        split at h1
        · rename_i z hz
          split at h1
          · rename_i hp
            simp at h1; subst h1
            unfold opA; simp only [cls, newA, hbt, hz, hp, mk]
          · simp at h1
        · simp at h1
    · simp at h1
  | box t x =>
    simp only [opF] at h1; unfold fBox at h1
    split at h1
    · simp at h1; subst h1
      unfold opA; simp only [cls, newA, mk]
    · simp at h1
  | build t ps => exact opA_fpure rfl h1
  | buildSlice t n ps => exact opA_new rfl h1
  | load t x =>
    simp only [opF] at h1; unfold fLoad at h1
    split at h1
    · obtain ⟨e1, e2⟩ := pv_some h1
      unfold opA; simp only [cls, e1]; subst e2; rfl
    · simp at h1
  | store t x y =>
    simp only [opF] at h1; unfold fStore at h1
    split at h1
    · split at h1
      · refine opA_eff rfl rfl ?_
        simp only [effA]; exact h1
      · simp at h1
    · simp at h1
  | nilCheck x =>
    simp only [opF] at h1; unfold fNil at h1
    split at h1
    · split at h1
      · simp at h1; subst h1; exact opA_pure rfl rfl rfl
      · simp at h1; subst h1; exact opA_pure rfl rfl rfl
      · simp at h1
    · simp at h1
  | binOp op t x y u =>
    obtain ⟨e1, e2⟩ := fBin_pure (x := x) (y := y) (u := u) h1
    exact opA_pure rfl e1 e2
  | unOp op t x => exact opA_fpure rfl h1
  | convert s d x =>
    simp only [opF] at h1; unfold fConv at h1
    split at h1
    · split at h1
      · split at h1
        · rename_i d1 k hs hd
          split at h1
          · simp at h1
          · rename_i hns
            simp at h1; subst h1
            refine opA_pure ?_ ?_ rfl
            · simp only [cls]
              first
                | done
                | (split
                   · rename_i e he; exact absurd he (hns e)
                   · rfl)
            · simp only [pureA, hs, hd]
        · simp at h1
      · split at h1
        · rename_i hc
          obtain ⟨e1, e2⟩ := pv_some h1
          exact opA_pure hc e1 e2
        · rename_i hc
          refine opA_eff ?_ rfl h1
          revert hc
          simp only [cls]
          split
          · intro _; rfl
          · intro hc; exact absurd rfl hc
    · simp at h1
  | makeInterface t x =>
    simp only [opF] at h1; unfold fMkI at h1
    split at h1
    · split at h1
      · simp at h1
      · rename_i d hne hd
        simp at h1; subst h1
        refine opA_pure rfl ?_ rfl
        simp only [pureA, hd]
      · simp at h1
    · simp at h1
  | makeFunc f a b => exact opA_fpure rfl h1
  | makeMap t r => exact opA_new rfl h1
  | makeSlice t l c => exact opA_new rfl h1
  | slice t x l hh m => exact opA_fpure rfl h1
  | fieldAddr s x f =>
    simp only [opF] at h1; unfold fField at h1
    split at h1
    · split at h1
      · split at h1
        · rename_i fs hs
          split at h1
          · rename_i g hg
            split at h1
            · rename_i q hq
              simp at h1; subst h1
              refine opA_pure rfl ?_ rfl
              simp only [pureA, hs, hg, hq]
            · simp at h1
          · simp at h1
        · simp at h1
      · simp at h1
    · simp at h1
  | field s x f => exact opA_fpure rfl h1
  | indexAddr t x i =>
    simp only [opF] at h1; unfold fIdx at h1
    split at h1
    · split at h1
      · split at h1
        · split at h1
          · rename_i el hs
            split at h1
            · rename_i sz h2 h3
              simp at h1; subst h1
              refine opA_pure rfl ?_ rfl
              simp only [pureA, hs, h2, h3]
            · simp at h1
          · simp at h1
        · simp at h1
      · simp at h1
    · simp at h1
  | index t x i => exact opA_fpure rfl h1
  | lookup t m k b => exact opA_eff rfl rfl h1
  | mapUpdate t m k v => exact opA_eff rfl rfl h1
  | range t x => exact opA_new rfl h1
  | next x b => exact opA_eff rfl rfl h1
  | typeAssert x t u b => exact opA_fpure rfl h1
  | extract x i =>
    simp only [opF] at h1; unfold fExt at h1
    split at h1
    · split at h1
      · obtain ⟨e1, e2⟩ := pv_some h1
        refine opA_pure rfl ?_ e2
        simp only [pureA]; exact e1
      · simp at h1
    · simp at h1
  | call c =>
    obtain ⟨cal, ts, rest⟩ := c
    cases cal with
    | builtin b =>
      cases b with
      | len =>
        have h1 : fLen _ E vs h = some r := h1
        simp only [fLen] at h1
        split at h1
        · rename_i hc
          obtain ⟨e1, e2⟩ := pv_some h1
          exact opA_pure hc e1 e2
        · rename_i hc
          exact opA_eff hc hn h1
        · simp at h1
      | cap => exact opA_fpure rfl h1
      | min => exact opA_fpure rfl h1
      | max => exact opA_fpure rfl h1
      | append => exact opA_eff rfl hn h1
      | copy => exact opA_eff rfl hn h1
      | delete => exact opA_eff rfl hn h1
      | _ => simp [opF, fBuiltin] at h1
    | value f => simp [isCall] at hn
    | _ => simp [opF] at h1
  | _ => simp [opF] at h1

end Go.Eng
end
