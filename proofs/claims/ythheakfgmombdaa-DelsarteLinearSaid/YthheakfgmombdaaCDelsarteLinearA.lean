import Derived.Maps.AppendAt
import Derived.Laws.OwnMore
import Derived.Deep.AppendLies
import Derived.OwnWalk
import Derived.Below
/- Part A of the proof: XOwn. -/
section
namespace Go
def World.ownsL (w : World) (base : Nat) (e : TypeId) (size : Nat) (v : Value) (n : Nat) (xs : List Value) : Prop :=
  xs.length = n * size ∧
  ((v = .slice none 0 0 ∧ n = 0) ∨
   ∃ g cap cur, v = .slice (some ⟨g, 0, none⟩) n cap ∧ base ≤ g ∧ w.heap[g]? = some (.cells cur e (0, 0)) ∧ n ≤ cap ∧ cap ≤ maxLen ∧ (∃ c', cap ≤ c' ∧ c' ≤ maxLen ∧ cur.size = c' * size) ∧ cur.toList.take (n * size) = xs)
section
variable {w : World} {base : Nat} {e : TypeId} {size : Nat} {v : Value} {n : Nat} {xs : List Value}
theorem World.ownsL_of (h : w.ownsRow base e size v n xs) : w.ownsL base e size v n xs := by
  obtain ⟨h1, h2⟩ := h
  rcases h2 with h2 | ⟨g, cap, cur, a, b, c, d, f, k, l⟩
  · exact ⟨h1, .inl h2⟩
  · exact ⟨h1, .inr ⟨g, cap, cur, a, b, c, d, f, ⟨cap, Nat.le_refl _, f, k⟩, l⟩⟩
theorem World.ownsL.strict (h : w.ownsL base e size v n xs) : w.ownsRow base e size v n xs ∨ ∃ g cap c', v = .slice (some ⟨g, 0, none⟩) n cap ∧ n ≤ cap ∧ cap ≤ c' ∧ cap ≤ maxLen ∧ w.ownsRow base e size (.slice (some ⟨g, 0, none⟩) n c') n xs := by
  obtain ⟨h1, h2⟩ := h
  rcases h2 with h2 | ⟨g, cap, cur, a, b, c, d, f, ⟨c', k1, k2, k3⟩, l⟩
  · exact .inl ⟨h1, .inl h2⟩
  · exact .inr ⟨g, cap, c', a, d, k1, f, h1, .inr ⟨g, c', cur, rfl, b, c, Nat.le_trans d k1, k2, k3, l⟩⟩
theorem World.ownsL_less {g cap c' : Nat} (h : w.ownsRow base e size (.slice (some ⟨g, 0, none⟩) n c') n xs) (h1 : n ≤ cap) (h2 : cap ≤ c') (h3 : cap ≤ maxLen) : w.ownsL base e size (.slice (some ⟨g, 0, none⟩) n cap) n xs := by
  obtain ⟨a1, a2⟩ := h
  refine ⟨a1, ?_⟩
  rcases a2 with ⟨hv, _⟩ | ⟨g', k, cur, hv, b, c, d, f, q, l⟩
  · cases hv
  · injection hv with hv1 _ hv3
    injection hv1 with hv1
    injection hv1 with hv1
    subst hv1 hv3
    exact .inr ⟨g, cap, cur, rfl, b, c, h1, h3, ⟨c', h2, f, q⟩, l⟩
theorem World.ownsL_lit (w : World) (cs : Array Value) (n : Nat) (hb : base ≤ w.heap.size) (hm : n ≤ maxLen) (hs : cs.size = n * size) :
    (w.alloc (.cells cs e)).ownsL base e size (.slice (some ⟨w.heap.size, 0, none⟩) n n) n cs.toList := World.ownsL_of (World.ownsRow_lit w cs n hb hm hs)
theorem World.ownsL.lt (h : w.ownsL base e size v n xs) : ∀ k, v.ownBlock = some k → base ≤ k ∧ k < w.heap.size := by
  rcases h.strict with h | ⟨g, cap, c', rfl, _, _, _, h⟩
  · exact h.lt
  · exact fun k hk => h.lt k hk
theorem World.ownsL.kept {w' : World} {row : Option Nat} (h : w.ownsL base e size v n xs) (hg : w.grownBy w' row) (hne : v.ownBlock = none ∨ v.ownBlock ≠ row) : w'.ownsL base e size v n xs := by
  rcases h.strict with h | ⟨g, cap, c', rfl, h1, h2, h3, h⟩
  · exact World.ownsL_of (h.kept hg hne)
  · exact World.ownsL_less (h.kept hg hne) h1 h2 h3
theorem World.ownsL.alloc (h : w.ownsL base e size v n xs) (o : Obj) : (w.alloc o).ownsL base e size v n xs :=
  h.kept (World.grownBy_alloc w o none) (by cases hv : v.ownBlock <;> simp)
theorem World.ownsL.drew (h : w.ownsL base e size v n xs) : w.drew.ownsL base e size v n xs := h
theorem World.ownsL.cells (h : w.ownsL base e size v n xs) {g : Nat} (hg : v.ownBlock = some g) : ∀ j u, xs[j]? = some u → w.cell? ((⟨g, 0, none⟩ : Addr).add j) = some u := by
  rcases h.strict with h | ⟨g', cap, c', rfl, _, _, _, h⟩
  · exact h.cells hg
  · exact h.cells (g := g) hg
theorem World.ownsL.form (h : w.ownsL base e size v n xs) (hn : 0 < n) : ∃ g cap, v = .slice (some ⟨g, 0, none⟩) n cap ∧ base ≤ g ∧ g < w.heap.size := by
  rcases h.strict with h | ⟨g', cap, c', rfl, _, _, _, h⟩
  · exact h.form hn
  · obtain ⟨h1, h2⟩ := h.lt g' rfl
    exact ⟨g', cap, rfl, h1, h2⟩
variable {g cap : Nat}
theorem World.ownsL.whole (h : w.ownsL base e size (.slice (some ⟨g, 0, none⟩) n cap) n xs) : n ≤ cap ∧ cap ≤ maxLen ∧ ∃ c', cap ≤ c' ∧ w.ownsRow base e size (.slice (some ⟨g, 0, none⟩) n c') n xs := by
  rcases h.strict with h | ⟨g', k, c', hv, h1, h2, h3, h⟩
  · rcases h.2 with ⟨hv, _⟩ | ⟨_, k, _, hv, _, _, d, f, _⟩
    · cases hv
    · injection hv with _ _ hv3
      subst hv3
      exact ⟨d, f, cap, Nat.le_refl _, h⟩
  · injection hv with hv1 _ hv3
    injection hv1 with hv1
    injection hv1 with hv1
    subst hv1 hv3
    exact ⟨h1, h3, c', h2, h⟩
theorem World.ownsL.stored (h : w.ownsL base e size (.slice (some ⟨g, 0, none⟩) n cap) n xs) (j : Nat) (u : Value) :
    (w.setCell ⟨g, j, none⟩ u).ownsL base e size (.slice (some ⟨g, 0, none⟩) n cap) n (xs.set j u) ∧ w.grownBy (w.setCell ⟨g, j, none⟩ u) (some g) := by
  obtain ⟨h1, h2, c', h3, h⟩ := h.whole
  exact ⟨World.ownsL_less (h.stored j u).1 h1 h3 h2, (h.stored j u).2⟩
end
section
variable {P : Program} (w : World)
theorem run_append_ownL_at (base : Nat) (t ty e : TypeId) (i : TypeInfo) (z : Value) (size bytes : Nat) (ht : P.underlying t = some (.slice e)) (hi : P.info? e = some i) (hz : i.zero = some z)
    (hsize : i.size = size) (hby : i.bytes = bytes) (hzs : z.cells.size = size) (hsz : 0 < size)
    (v : Value) (n : Nat) (xs : List Value) (hown : w.ownsL base e size v n xs)
    (a : Addr) (m c : Nat) (news : List Value) (hl : news.length = m * size) (hnews : ∀ j u, news[j]? = some u → w.cell? (a.add j) = some u) (h1 : ∀ u ∈ news, u.oneCell' = true)
    (h63 : n + m ≤ maxLen) (hbytes : (n + m) * bytes ≤ 140737488355328) (hbase : base ≤ w.heap.size) :
    ∃ v' w', (Builtin.append_ #[t, t] ty #[v, .slice (some a) m c]).run P w = .ok v' w' ∧ w'.ownsL base e size v' (n + m) (xs ++ news) ∧ w.grownBy w' v.ownBlock ∧
      (v' = .slice none 0 0 ↔ v = .slice none 0 0 ∧ m = 0) ∧ (v'.ownBlock = v.ownBlock ∨ v'.ownBlock = some w.heap.size) := by
  rcases hown.strict with hown | ⟨g, cap, c', rfl, k1, k2, k3, hown⟩
  · obtain ⟨v', w', r1, r2, r3, r4, r5⟩ := run_append_own_at (P := P) w base t ty e i z size bytes ht hi hz hsize hby hzs hsz v n xs hown a m c news hl hnews h1 h63 hbytes hbase
    exact ⟨v', w', r1, World.ownsL_of r2, r3, r4, r5⟩
  · subst hsize hby
    have hlen : (xs ++ news).length = (n + m) * i.size := by rw [List.length_append, hown.1, hl, Nat.add_mul]
    rcases hown.2 with ⟨hv, _⟩ | ⟨g', cap', cur, hv, hbg, hg, hnc, hcm, hcs, htake⟩
    · cases hv
    · injection hv with hv1 _ hv3
      injection hv1 with hv1
      injection hv1 with hv1
      subst hv1 hv3
      by_cases hroom : n + m ≤ cap
      · have hfit : n * i.size + news.length ≤ cur.size := by rw [hl, hcs, ← Nat.add_mul]; exact Nat.mul_le_mul_right _ (Nat.le_trans hroom k2)
        have hr := run_append_room (P := P) w t ty e i ht hi g n cap cur hg a m c news hl hnews h1 hroom hfit
        refine ⟨_, _, hr, ⟨hlen, .inr ⟨g, cap, _, rfl, hbg, setRow_heap w g cur _ e _ hg, hroom, k3, ⟨c', k2, hcm, ?_⟩, ?_⟩⟩, ⟨rfl, rfl, rfl, by simp, fun k _ hk => setRow_other w g k _ (fun e => hk (by simp [Value.ownBlock, e]))⟩, by simp, .inl rfl⟩
        · simp only [List.size_toArray, List.length_append, List.length_take, List.length_drop, Array.length_toList]
          omega
        · rw [htake, ← hlen]
          exact List.take_left
      · have holds : ∀ j u, xs[j]? = some u → w.cell? ((⟨g, 0, none⟩ : Addr).add j) = some u := hown.cells (g := g) rfl
        have hr := run_append_grow (P := P) w t ty e i z ht hi hz ⟨g, 0, none⟩ n cap xs hown.1 holds a m c news hl hnews (by omega) (by simp only [maxLen] at h63; omega) (growslice_fits (by omega) hbytes)
        have hge := grownCap_ge w (n + m) cap e
        have hcm' : grownCap w (n + m) cap e ≤ maxLen := grownCap_le_maxLen w (n + m) cap e h63
        refine ⟨_, _, hr, World.ownsL_of ⟨hlen, .inr ⟨w.heap.size, _, _, rfl, hbase, heap_alloc_new w.drew _, hge, hcm', ?_, ?_⟩⟩, ⟨rfl, rfl, rfl, by simp, fun k hk _ => heap_alloc_old w.drew _ k hk⟩, by simp, .inr rfl⟩
        · simp only [Array.size_append, List.size_toArray, size_zeroCells, hzs, hown.1, hl, ← Nat.add_mul]
          congr 1
          omega
        · simp only [Array.toList_append, List.append_assoc]
          rw [← List.append_assoc, ← hlen]
          exact List.take_left
theorem wpList_append_ownL_at {ops : Array Oper} {rest : List Oper} {o : Oper} {a : Act} {Q : Exit → Act → World → Prop} (hgd : o.guard = none) (s x : Operand) (t : TypeId)
    (ho : o.op = .call { callee := .builtin .append, args := #[s, x], argTypes := #[t, t] })
    (base : Nat) (e : TypeId) (i : TypeInfo) (z : Value) (size bytes : Nat) (ht : P.underlying t = some (.slice e)) (hi : P.info? e = some i) (hz : i.zero = some z)
    (hsize : i.size = size) (hby : i.bytes = bytes) (hzs : z.cells.size = size) (hsz : 0 < size)
    (v : Value) (n : Nat) (xs : List Value) (hs : a.eval s = v) (hown : w.ownsL base e size v n xs)
    (ad : Addr) (m c : Nat) (news : List Value) (hx : a.eval x = .slice (some ad) m c) (hl : news.length = m * size) (hnews : ∀ j u, news[j]? = some u → w.cell? (ad.add j) = some u) (h1 : ∀ u ∈ news, u.oneCell' = true)
    (h63 : n + m ≤ maxLen) (hbytes : (n + m) * bytes ≤ 140737488355328) (hbase : base ≤ w.heap.size)
    (h : ∀ v' w', w'.ownsL base e size v' (n + m) (xs ++ news) → w.grownBy w' v.ownBlock → (v' = .slice none 0 0 ↔ v = .slice none 0 0 ∧ m = 0) → (v'.ownBlock = v.ownBlock ∨ v'.ownBlock = some w.heap.size) → wpList P ops Q rest (a.put o.dst v') w') :
    wpList P ops Q (o :: rest) a w := by
  refine wpList_plain hgd fun K hK => ?_
  obtain ⟨v', w', hr, h2, h3, h4, h5⟩ := run_append_ownL_at (P := P) w base t o.type e i z size bytes ht hi hz hsize hby hzs hsz v n xs hown ad m c news hl hnews h1 h63 hbytes hbase
  unfold Oper.wp execOp
  simp only [ho, resolve, invoke, builtin, Sem.run_bind, Sem.run_pure, Result.andThen_ok, List.map_toArray, List.map_cons, List.map_nil, hs, hx, hr]
  exact hK _ _ (h v' w' h2 h3 h4 h5)
end
end Go
end
