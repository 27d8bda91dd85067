/- Abstract execution, part H: append, calls; one step is sound. -/
import Derived.Test.YtiippmhlkcbjmaaAxG
set_option linter.unusedVariables false
set_option linter.unusedSimpArgs false
namespace Go.Proofs.Ytiippmhlkcbjmaa.Ax
open Go

section
variable {P : Program} {E : Env} {N : Nat} {p : Path} {ds : List Deferred} {G : Ghost} {σ : St} {a : Act} {w : World}

theorem run_append_none (t ty e : TypeId) (ht : P.underlying t = some (.slice e)) (h4 : 0 < P.cellsOf e) (base A : Option Addr) (n c c2 : Nat) (hn : n ≤ c) (w : World) :
    (Builtin.append_ #[t, t] ty #[.slice base n c, .slice A 0 c2]).run P w = .ok (.slice base n c) w := by
  obtain ⟨i, hi, _⟩ := info_of_cells h4
  have hf : (Builtin.firstCells (P.cellsOf e) 0 (.slice A 0 c2)).run P w = .ok #[] w := by
    cases A with
    | none => rfl
    | some A => simp [Builtin.firstCells, loadCells, loadCellsFrom]
  cases base with
  | none => simp [Builtin.append_, run_underlying ht, run_sizeOf hi, Builtin.lenOf, hn, hf]
  | some b => simp [Builtin.append_, run_underlying ht, run_sizeOf hi, Builtin.lenOf, hn, hf, storeCells]
theorem run_append_room' (t ty e : TypeId) (i : TypeInfo) (ht : P.underlying t = some (.slice e)) (hi : P.info? e = some i)
    (g sLen sCap : Nat) (cur : Array Value) (T : TypeId) (w : World) (hg : w.heap[g]? = some (.cells cur T (0, 0)))
    (a : Addr) (m c : Nat) (news : List Value) (hl : news.length = m * i.size) (hnews : ∀ (j : Nat) u, news[j]? = some u → w.cell? (a.add j) = some u) (h1 : ∀ u ∈ news, u.oneCell' = true)
    (hroom : sLen + m ≤ sCap) (hfit : sLen * i.size + news.length ≤ cur.size) :
    (Builtin.append_ #[t, t] ty #[.slice (some ⟨g, 0, none⟩) sLen sCap, .slice (some a) m c]).run P w =
      .ok (.slice (some ⟨g, 0, none⟩) (sLen + m) sCap) (w.setRow g (cur.toList.take (sLen * i.size) ++ news ++ cur.toList.drop (sLen * i.size + news.length)).toArray) := by
  have hf := run_firstCells_some (P := P) w i.size m a m c news hl hnews
  have hst := run_storeCells_at P g (sLen * i.size) T news 0 cur w hg (by simpa using hfit) h1
  simp only [Nat.add_zero] at hst
  simp [Builtin.append_, run_underlying ht, sizeOf, typeInfo, hi, Builtin.lenOf, hroom, hf, Addr.add_lit, hst]

theorem elsOf_rep {v : Value} {x : V} (h : Rep G v x) (hs : (elsOf x).isSome = true) : ∃ A n c, v = .slice A n c ∧ n ≤ c := by
  cases h with
  | nils => exact ⟨none, 0, 0, rfl, Nat.le_refl _⟩
  | sl0 A c => exact ⟨A, 0, c, rfl, Nat.zero_le _⟩
  | sl b o c s els tk vs hs' hc hm => exact ⟨_, _, c, rfl, hc⟩
  | _ => simp [elsOf] at hs
theorem elsOf_nil {v : Value} {x : V} (h : Rep G v x) (hs : elsOf x = some []) : ∃ A c, v = .slice A 0 c := by
  cases h with
  | nils => exact ⟨none, 0, rfl⟩
  | sl0 A c => exact ⟨A, c, rfl⟩
  | sl b o c s els tk vs hs' hc hm => simp [elsOf] at hs; subst hs; exact ⟨_, c, rfl⟩
  | _ => simp [elsOf] at hs
/-- What is appended, in cells. -/
theorem news_of {v : Value} {x : V} {news : List (List V)} {s : Nat} (h : Rep G v x) (hs : Sim G σ.M σ.K w) (hx : elsOf x = some news) (hne : news ≠ []) (hall : news.all (fun el => el.length == s && el.all V.one) = true) :
    ∃ b o c, ∃ vs : List (List Value), v = .slice (some ⟨b, o, none⟩) news.length c ∧ vs.length = news.length ∧ (∀ (i : Nat) v el, vs[i]? = some v → news[i]? = some el → RepL G v el) ∧ (∀ l ∈ vs, l.length = s) ∧
      (∀ (j : Nat) u, vs.flatten[j]? = some u → w.cell? ((⟨b, o, none⟩ : Addr).add j) = some u) ∧ (∀ u ∈ vs.flatten, u.oneCell' = true) := by
  cases x <;> simp [elsOf] at hx
  · exact absurd hx hne
  · rename_i ns tk
    obtain rfl : ns = news := hx
    obtain ⟨b, o, c, rfl⟩ := rep_addr h hne
    obtain ⟨_, _, vs, h1, h2, h3⟩ := rep_lists h
    have hel : ∀ el ∈ ns, el.length = s ∧ ∀ y ∈ el, y.one = true := fun el hel => by
      have := List.all_eq_true.1 hall el hel
      simp only [Bool.and_eq_true, beq_iff_eq, List.all_eq_true] at this
      exact this
    have hm : ∀ l ∈ vs, ∃ el, el ∈ ns ∧ RepL G l el := fun l hl => by
      obtain ⟨i, hi⟩ := List.mem_iff_getElem?.1 hl
      have hlt : i < ns.length := by rw [← h1]; exact (List.getElem?_eq_some_iff.1 hi).1
      exact ⟨ns[i], by simp, h2 i l _ hi (by simp [hlt])⟩
    refine ⟨b, o, c, vs, rfl, h1, h2, fun l hl => ?_, fun j u hu => ?_, fun u hu => ?_⟩
    · obtain ⟨el, he, hr⟩ := hm l hl
      rw [hr.1]; exact (hel el he).1
    · rw [Addr.add_lit]; exact hs.fx _ _ _ (h3 j u hu)
    · obtain ⟨l, hl, hul⟩ := List.mem_flatten.1 hu
      obtain ⟨el, he, hr⟩ := hm l hl
      obtain ⟨i, hi⟩ := List.mem_iff_getElem?.1 hul
      obtain ⟨y, hy, hry⟩ := hr.get' hi
      exact one_cell hry ((hel el he).2 y (List.mem_of_getElem? hy))
theorem repLL_append {vs ws : List (List Value)} {es fs : List (List V)} (hl : vs.length = es.length) (h : ∀ (i : Nat) v el, vs[i]? = some v → es[i]? = some el → RepL G v el) (k : ∀ (i : Nat) v el, ws[i]? = some v → fs[i]? = some el → RepL G v el) :
    ∀ (i : Nat) v el, (vs ++ ws)[i]? = some v → (es ++ fs)[i]? = some el → RepL G v el := fun i v el hv he => by
  rw [List.getElem?_append] at hv he
  rw [hl] at hv
  split at hv
  · rename_i hi; rw [if_pos hi] at he; exact h i v el hv he
  · rename_i hi; rw [if_neg hi] at he; exact k _ v el hv he
theorem repLL_er {vs : List (List Value)} {es : List (List V)} (h : ∀ (i : Nat) v el, vs[i]? = some v → es[i]? = some el → RepL G v el) : ∀ (i : Nat) v el, vs[i]? = some v → (es.map (List.map V.er))[i]? = some el → RepL G v el := fun i v el hv he => by
  rw [List.getElem?_map] at he
  obtain ⟨y, hy, rfl⟩ := Option.map_eq_some_iff.1 he
  exact repL_er (h i v y hv hy)
theorem size_zeros (z : Array Value) (n : Nat) : (Builtin.zeroCells z n).size = n * z.size := by simp [Builtin.zeroCells]

/-- It grows into a new block. -/
theorem done_grow (h : Rel N p ds G σ a w) (o : Oper) (pre : Prop) (K0 : Toks) (hK : ∀ t, K0 t = true → σ.K t = true) {els news : List (List V)} {ovs nvs : List (List Value)} {s cap : Nat} {e : TypeId} {z : Array Value} (hz : z.size = s)
    (ho : ovs.length = els.length) (hos : ∀ l ∈ ovs, l.length = s) (hor : ∀ (i : Nat) v el, ovs[i]? = some v → els[i]? = some el → RepL G v el) (hes : ∀ el ∈ els, el.length = s)
    (hn : nvs.length = news.length) (hns : ∀ l ∈ nvs, l.length = s) (hnr : ∀ (i : Nat) v el, nvs[i]? = some v → news[i]? = some el → RepL G v el) (hes2 : ∀ el ∈ news, el.length = s) (hcap : els.length + news.length ≤ cap) (hmx : cap ≤ 9223372036854775807)
    (hex : (execOp a.eval o).run P w = .ok (.value (.slice (some ⟨w.heap.size, 0, none⟩) (els.length + news.length) cap)) (w.drew.alloc (.cells (ovs.flatten.toArray ++ nvs.flatten.toArray ++ Builtin.zeroCells z (cap - (els.length + news.length))) e))) :
    Done P N p ds G σ a w o (coreNew p pre o.dst (fun id => .sl (els ++ news.map (List.map V.er)) (.own id s)) none true σ.M K0 σ.cnt) := by
  have hfr := h.fresh o.dst (nid σ.cnt p o.dst) (List.suffix_refl _)
  have hid : p <:+ nid σ.cnt p o.dst := Rel.pre_suffix _ _ _
  have hlo : ovs.flatten.length = els.length * s := by rw [flat_len hos, ho]
  have hln : nvs.flatten.length = news.length * s := by rw [flat_len hns, hn]
  have hsz : (ovs.flatten.toArray ++ nvs.flatten.toArray ++ Builtin.zeroCells z (cap - (els.length + news.length))).size = cap * s := by
    simp only [Array.size_append, List.size_toArray, hlo, hln, size_zeros, hz, ← Nat.add_mul]
    congr 1; omega
  have hv : ∀ (i : Nat) v, (ovs ++ nvs).flatten[i]? = some v → (ovs.flatten.toArray ++ nvs.flatten.toArray ++ Builtin.zeroCells z (cap - (els.length + news.length)))[i]? = some v := fun i v hv => by
    rw [Array.getElem?_append_left]
    · rw [List.flatten_append] at hv; simpa using hv
    · have := (List.getElem?_eq_some_iff.1 hv).1
      rw [List.flatten_append, List.length_append] at this
      simpa using this
  have hd : Sim G σ.M σ.K w.drew := h.sim.drew
  have hs := hd.alloc_row hK hfr.2 (ovs.flatten.toArray ++ nvs.flatten.toArray ++ Builtin.zeroCells z (cap - (els.length + news.length))) e (ovs ++ nvs).flatten hv cap s (els.length + news.length) hsz hcap (by rw [List.flatten_append, List.length_append, hlo, hln, Nat.add_mul]; exact Nat.le_refl _)
  have ht := Tr.alloc_row hd hK (p := nid σ.cnt p o.dst) (List.suffix_refl _) hfr.2 (ovs.flatten.toArray ++ nvs.flatten.toArray ++ Builtin.zeroCells z (cap - (els.length + news.length))) e (ovs ++ nvs).flatten cap s (els.length + news.length)
  have htr := (Tr.drew (nid σ.cnt p o.dst) G σ.M σ.K w).trans ht
  refine ⟨_, _, _, .inl hex, ?_, htr.mono hid, h.next o.dst htr hs⟩
  have hle := htr.le
  have e1 : els.length + news.length = (els ++ news.map (List.map V.er)).length := by simp
  show Rep _ _ (.sl (els ++ news.map (List.map V.er)) (.own (nid σ.cnt p o.dst) s))
  rw [e1] at hle ⊢
  refine rep_slice (vs := ovs ++ nvs) (s := s) _ (by simp [ho, hn]) (fun el hel => ?_) ?_ (fun i v hv' => ?_) (by simpa using hcap) hmx (by simp) (fun q s' e' => by cases e'; exact ⟨rfl, rfl, by simp [Ghost.addTok, heap_drew]⟩)
  · rcases List.mem_append.1 hel with h | h
    · exact hes el h
    · obtain ⟨y, hy, rfl⟩ := List.mem_map.1 h; simpa using hes2 y hy
  · have := repLL_append ho hor (repLL_er hnr)
    exact fun i v el hv he => (this i v el hv he).mono hle
  · simp only [Ghost.addTok, Ghost.fix, heap_drew, if_true, Nat.zero_add]; exact hv'
/-- It fits into the row. -/
theorem done_room (h : Rel N p ds G σ a w) (o : Oper) (pre : Prop) {q : Path} (hk : σ.K q = true) {els news : List (List V)} {ovs nvs : List (List Value)} {s cap g : Nat} (ht : G.tl q = some (g, cap, s, els.length))
    {arr : Array Value} {T : TypeId} (hh : w.heap[g]? = some (.cells arr T (0, 0)))
    (ho : ovs.length = els.length) (hos : ∀ l ∈ ovs, l.length = s) (hor : ∀ (i : Nat) v el, ovs[i]? = some v → els[i]? = some el → RepL G v el) (hes : ∀ el ∈ els, el.length = s) (hofx : ∀ (i : Nat) v, ovs.flatten[i]? = some v → G.fx g i = some v)
    (hn : nvs.length = news.length) (hns : ∀ l ∈ nvs, l.length = s) (hnr : ∀ (i : Nat) v el, nvs[i]? = some v → news[i]? = some el → RepL G v el) (hes2 : ∀ el ∈ news, el.length = s) (hcap : els.length + news.length ≤ cap) (hmx : cap ≤ 9223372036854775807)
    (hex : (execOp a.eval o).run P w = .ok (.value (.slice (some ⟨g, 0, none⟩) (els.length + news.length) cap)) (w.setRow g (arr.toList.take (els.length * s) ++ nvs.flatten ++ arr.toList.drop (els.length * s + nvs.flatten.length)).toArray)) :
    Done P N p ds G σ a w o (coreNew p pre o.dst (fun id => .sl (els ++ news.map (List.map V.er)) (.own id s)) none true σ.M (upd σ.K q false) σ.cnt) := by
  have hfr := h.fresh o.dst (nid σ.cnt p o.dst) (List.suffix_refl _)
  have hid : p <:+ nid σ.cnt p o.dst := Rel.pre_suffix _ _ _
  have hln : nvs.flatten.length = news.length * s := by rw [flat_len hns, hn]
  have hlo : ovs.flatten.length = els.length * s := by rw [flat_len hos, ho]
  obtain ⟨hle, hs⟩ := h.sim.grow_row (t' := nid σ.cnt p o.dst) hk ht hfr.2 hh nvs.flatten news.length hln hcap
  have htr := Tr.grow_row (K := σ.K) (M := σ.M) (w := w) (p := nid σ.cnt p o.dst) (List.suffix_refl _) hk ht nvs.flatten news.length hle (arr.toList.take (els.length * s) ++ nvs.flatten ++ arr.toList.drop (els.length * s + nvs.flatten.length)).toArray
  refine ⟨_, _, _, .inl hex, ?_, htr.mono hid, h.next o.dst htr hs⟩
  have e1 : els.length + news.length = (els ++ news.map (List.map V.er)).length := by simp
  show Rep _ _ (.sl (els ++ news.map (List.map V.er)) (.own (nid σ.cnt p o.dst) s))
  rw [e1] at hle ⊢
  refine rep_slice (vs := ovs ++ nvs) (s := s) _ (by simp [ho, hn]) (fun el hel => ?_) ?_ (fun i v hv' => ?_) (by simpa using hcap) hmx (by simp) (fun q s' e' => by cases e'; exact ⟨rfl, rfl, by simp [Ghost.addTok]⟩)
  · rcases List.mem_append.1 hel with h | h
    · exact hes el h
    · obtain ⟨y, hy, rfl⟩ := List.mem_map.1 h; simpa using hes2 y hy
  · have := repLL_append ho hor (repLL_er hnr)
    exact fun i v el hv he => (this i v el hv he).mono hle
  · rw [List.flatten_append, List.getElem?_append] at hv'
    simp only [Nat.zero_add]
    split at hv'
    · exact hle.fx _ _ _ (hofx i v hv')
    · rename_i hi
      simp only [Ghost.addTok, Ghost.grow, true_and]
      have hlt := (List.getElem?_eq_some_iff.1 hv').1
      rw [if_pos (by omega), ← hlo]
      exact hv'

theorem done_append (h : Rel N p ds G σ a w) (o : Oper) (ts : Array TypeId) (s x : Operand) (ho : o.op = .call { callee := .builtin .append, args := #[s, x], argTypes := ts })
    (hp : (coreAppend P p ts (σ.ev s) (σ.ev x) o.dst σ.M σ.K σ.cnt).pre) : Done P N p ds G σ a w o (coreAppend P p ts (σ.ev s) (σ.ev x) o.dst σ.M σ.K σ.cnt) := by
  have hs := h.eval s
  have hx := h.eval x
  generalize σ.ev s = S at *
  generalize σ.ev x = X at *
  generalize has : a.eval s = sv at *
  generalize hax : a.eval x = xv at *
  have hexec : ∀ t v w', ts = #[t, t] → (Builtin.append_ #[t, t] o.type #[sv, xv]).run P w = .ok v w' → (execOp a.eval o).run P w = .ok (.value v) w' := fun t v w' hts hr => by
    obtain ⟨dst, op, type, pos, after, guard⟩ := o
    simp only at ho; subst ho; subst hts
    simp only [execOp, resolve, invoke, builtin, Sem.run_bind, Sem.run_pure, Result.andThen_ok, List.map_toArray, List.map_cons, List.map_nil, has, hax, hr]
  unfold coreAppend at hp ⊢
  split at hp
  · rename_i t t' hts
    have hts' : ∀ {u}, t' = u → t = u → ts = #[u, u] := fun e1 e2 => by subst e1; subst e2; exact Array.ext' (by simpa using hts)
    try simp only [hts]
    split at hp
    · rename_i e news hu hels
      try simp only [hu, hels]
      split at hp
      · rename_i z hz
        try simp only [hz]
        split at hp
        · obtain ⟨rfl, h1, h2⟩ := hp
          obtain ⟨A, n, c, rfl, hn⟩ := elsOf_rep hs h1
          obtain ⟨A2, c2, rfl⟩ := elsOf_nil hx hels
          exact ⟨_, w, G, .inl (hexec _ _ _ (hts' rfl rfl) (run_append_none _ o.type e hu h2 A A2 n c c2 hn w)), hs, .refl _ _ _ _ _, h⟩
        · rename_i hne
          have hne' : news ≠ [] := fun e => hne e
          have h0 : 0 < news.length := List.length_pos_iff.2 hne'
          cases S with
          | nils =>
            simp only at hp ⊢
            obtain ⟨rfl, h2, h3, h4, h5, h6, h7⟩ := hp
            obtain ⟨inf, hi, hsz⟩ := info_of_cells h2
            have hby : P.bytesOf e = inf.bytes := by simp [Program.bytesOf, hi]
            obtain ⟨z0, hz0⟩ : ∃ z0, inf.zero = some z0 ∧ z = ofVal z0 := by
              unfold zval at hz; rw [hi] at hz; simp at hz; obtain ⟨z0, h1, h2⟩ := hz; exact ⟨z0, h1, h2.symm⟩
            have hzl : z0.cells.size = P.cellsOf e := by
              have hr := rep_ofVal G z0; rw [← hz0.2] at hr
              have := (rep_cells hr h4).1; simp at this; omega
            obtain ⟨b, oo, c, nvs, rfl, hn1, hn2, hn3, hn4, hn5⟩ := news_of hx h.sim hels hne' h6
            cases hs
            have hl : nvs.flatten.length = news.length * inf.size := by rw [flat_len hn3, hn1, hsz]
            have hrun := run_append_nil (P := P) w t' o.type e inf z0 hu hi hz0.1 ⟨b, oo, none⟩ news.length c nvs.flatten hl hn4 h0 (by
              have : news.length * 1 ≤ news.length * P.bytesOf e := Nat.mul_le_mul_left _ h3
              omega) (by rw [← hby]; omega)
            have hel : ∀ el ∈ news, el.length = P.cellsOf e := fun el hel => by
              have := List.all_eq_true.1 h6 el hel; simp only [Bool.and_eq_true, beq_iff_eq] at this; exact this.1
            have hgm : grownCap w news.length 0 e ≤ 9223372036854775807 := grownCap_le_maxLen w _ _ e (by
              have : news.length * 1 ≤ news.length * P.bytesOf e := Nat.mul_le_mul_left _ h3
              unfold maxLen; omega)
            have := done_grow (P := P) h o (t' = t' ∧ 0 < P.cellsOf e ∧ 0 < P.bytesOf e ∧ z.isJunk = false ∧ z.cells.length = P.cellsOf e ∧ news.all (fun el => el.length == P.cellsOf e && el.all V.one) = true ∧ news.length * P.bytesOf e ≤ 140737488355328) σ.K (fun _ h => h) (els := []) (ovs := []) (e := e) hzl rfl (by simp) (by simp) (by simp) hn1 hn3 hn2 hel (by simpa using grownCap_ge w news.length 0 e) (by simpa using hgm) (by
              have := hexec t' _ _ (hts' rfl rfl) hrun
              simpa using this)
            simpa using this
          | sl els tk =>
            cases tk with
            | no => simp only at hp; exact hp.elim
            | ex =>
              simp only at hp ⊢
              obtain ⟨rfl, h2, h3, h4, h5, h6, h7, h8⟩ := hp
              obtain ⟨inf, hi, hsz⟩ := info_of_cells h2
              have hby : P.bytesOf e = inf.bytes := by simp [Program.bytesOf, hi]
              obtain ⟨z0, hz0⟩ : ∃ z0, inf.zero = some z0 ∧ z = ofVal z0 := by
                unfold zval at hz; rw [hi] at hz; simp at hz; obtain ⟨z0, h1, h2⟩ := hz; exact ⟨z0, h1, h2.symm⟩
              have hzl : z0.cells.size = P.cellsOf e := by
                have hr := rep_ofVal G z0; rw [← hz0.2] at hr
                have := (rep_cells hr h4).1; simp at this; omega
              obtain ⟨b, oo, c, nvs, rfl, hn1, hn2, hn3, hn4, hn5⟩ := news_of hx h.sim hels hne' h6
              obtain ⟨b1, o1, rfl⟩ := rep_ex hs
              obtain ⟨_, _, ovs, ho1, ho2, ho3⟩ := rep_lists hs
              have hos : ∀ l ∈ ovs, l.length = P.cellsOf e := fun l hl => by
                obtain ⟨i, hi⟩ := List.mem_iff_getElem?.1 hl
                have hlt : i < els.length := by rw [← ho1]; exact (List.getElem?_eq_some_iff.1 hi).1
                rw [(ho2 i l els[i] hi (by simp [hlt])).1]; exact h7 _ (by simp)
              have hl : nvs.flatten.length = news.length * inf.size := by rw [flat_len hn3, hn1, hsz]
              have hlo : ovs.flatten.length = els.length * inf.size := by rw [flat_len hos, ho1, hsz]
              have hbig : (els.length + news.length) * 1 ≤ (els.length + news.length) * P.bytesOf e := Nat.mul_le_mul_left _ h3
              have hrun := run_append_grow (P := P) w t' o.type e inf z0 hu hi hz0.1 ⟨b1, o1, none⟩ els.length els.length ovs.flatten hlo (fun j u hu => by rw [Addr.add_lit]; exact h.sim.fx _ _ _ (ho3 j u hu)) ⟨b, oo, none⟩ news.length c nvs.flatten hl hn4
                (by omega) (by omega) (growslice_fits (by omega) (by rw [← hby]; exact h8))
              have hel : ∀ el ∈ news, el.length = P.cellsOf e := fun el hel => by
                have := List.all_eq_true.1 h6 el hel; simp only [Bool.and_eq_true, beq_iff_eq] at this; exact this.1
              exact done_grow (P := P) h o _ σ.K (fun _ h => h) (e := e) hzl ho1 hos ho2 h7 hn1 hn3 hn2 hel (grownCap_ge w _ _ e) (grownCap_le_maxLen w _ _ e (by unfold maxLen; omega)) (hexec t' _ _ (hts' rfl rfl) hrun)
            | own q s =>
              simp only at hp ⊢
              obtain ⟨hk, rfl, rfl, h2, h3, h4, h5, h6, h7, h8⟩ := hp
              obtain ⟨inf, hi, hsz⟩ := info_of_cells h2
              have hby : P.bytesOf e = inf.bytes := by simp [Program.bytesOf, hi]
              obtain ⟨z0, hz0⟩ : ∃ z0, inf.zero = some z0 ∧ z = ofVal z0 := by
                unfold zval at hz; rw [hi] at hz; simp at hz; obtain ⟨z0, h1, h2⟩ := hz; exact ⟨z0, h1, h2.symm⟩
              have hzl : z0.cells.size = P.cellsOf e := by
                have hr := rep_ofVal G z0; rw [← hz0.2] at hr
                have := (rep_cells hr h4).1; simp at this; omega
              obtain ⟨b, oo, c, nvs, rfl, hn1, hn2, hn3, hn4, hn5⟩ := news_of hx h.sim hels hne' h6
              obtain ⟨g, cap, rfl, hcl, hmx, htl⟩ := rep_own hs
              obtain ⟨_, _, ovs, ho1, ho2, ho3⟩ := rep_lists hs
              simp only [Nat.zero_add] at ho3
              have hos : ∀ l ∈ ovs, l.length = P.cellsOf e := fun l hl => by
                obtain ⟨i, hi⟩ := List.mem_iff_getElem?.1 hl
                have hlt : i < els.length := by rw [← ho1]; exact (List.getElem?_eq_some_iff.1 hi).1
                rw [(ho2 i l els[i] hi (by simp [hlt])).1]; exact h7 _ (by simp)
              have hl : nvs.flatten.length = news.length * inf.size := by rw [flat_len hn3, hn1, hsz]
              have hlo : ovs.flatten.length = els.length * inf.size := by rw [flat_len hos, ho1, hsz]
              have hbig : (els.length + news.length) * 1 ≤ (els.length + news.length) * P.bytesOf e := Nat.mul_le_mul_left _ h3
              have hel : ∀ el ∈ news, el.length = P.cellsOf e := fun el hel => by
                have := List.all_eq_true.1 h6 el hel; simp only [Bool.and_eq_true, beq_iff_eq] at this; exact this.1
              by_cases hroom : els.length + news.length ≤ cap
              · obtain ⟨g', cap', s', n', arr, T, ht', hh, ha, hn', hx', hb'⟩ := h.sim.tok q hk
                rw [htl] at ht'; cases ht'
                have hfit : els.length * inf.size + nvs.flatten.length ≤ arr.size := by
                  rw [hl, ha, hsz, ← Nat.add_mul]; exact Nat.mul_le_mul_right _ hroom
                have hrun := run_append_room' (P := P) t' o.type e inf hu hi g els.length cap arr T w hh ⟨b, oo, none⟩ news.length c nvs.flatten hl hn4 hn5 hroom hfit
                rw [hsz] at hrun
                exact done_room (P := P) h o _ hk htl hh ho1 hos ho2 h7 ho3 hn1 hn3 hn2 hel hroom hmx (hexec t' _ _ (hts' rfl rfl) hrun)
              · have hrun := run_append_grow (P := P) w t' o.type e inf z0 hu hi hz0.1 ⟨g, 0, none⟩ els.length cap ovs.flatten hlo (fun j u hu => by rw [Addr.add_lit, Nat.zero_add]; exact h.sim.fx _ _ _ (ho3 j u hu)) ⟨b, oo, none⟩ news.length c nvs.flatten hl hn4
                  (by omega) (by omega) (growslice_fits (by omega) (by rw [← hby]; exact h8))
                exact done_grow (P := P) h o _ (upd σ.K q false) (fun t ht => by
                  by_cases e : t = q
                  · subst e; exact hk
                  · rwa [upd_ne _ _ e] at ht) (e := e) hzl ho1 hos ho2 h7 hn1 hn3 hn2 hel (grownCap_ge w _ _ e) (grownCap_le_maxLen w _ _ e (by unfold maxLen; omega)) (hexec t' _ _ (hts' rfl rfl) hrun)
          | _ => simp only at hp; exact hp.elim
      · exact hp.elim
    · exact hp.elim
  · exact hp.elim
end
end Go.Proofs.Ytiippmhlkcbjmaa.Ax
