/- Abstract execution, part G: literals of slices, make, append, calls: one step is sound. -/
import Derived.Test.YtiippmhlkcbjmaaAxF
set_option linter.unusedVariables false
set_option linter.unusedSimpArgs false
namespace Go.Proofs.Ytiippmhlkcbjmaa.Ax
open Go

section
variable {P : Program} {E : Env} {N : Nat} {p : Path} {ds : List Deferred} {G : Ghost} {σ : St} {a : Act} {w : World}

/-- What a slice's reading rests on, as lists. -/
theorem rep_lists {b o n c : Nat} {els : List (List V)} {tk : Tk} (h : Rep G (.slice (some ⟨b, o, none⟩) n c) (.sl els tk)) :
    n = els.length ∧ n ≤ c ∧ ∃ vs : List (List Value), vs.length = els.length ∧ (∀ (i : Nat) v el, vs[i]? = some v → els[i]? = some el → RepL G v el) ∧ (∀ (i : Nat) v, vs.flatten[i]? = some v → G.fx b (o + i) = some v) := by
  cases h with
  | sl0 A c => exact ⟨rfl, Nat.zero_le _, [], rfl, fun i v el h => by simp at h, fun i v h => by simp at h⟩
  | sl b o c s els tk vs hs hc hm hfx hrep hex htk =>
    refine ⟨rfl, hc, els.mapIdx fun i el => (List.range el.length).map fun j => vs i j, by simp, fun i v el hv hel => ?_, fun i v hv => ?_⟩
    · rw [List.getElem?_mapIdx, hel] at hv
      simp only [Option.map_some, Option.some.injEq] at hv
      subst hv
      refine ⟨by simp, fun j u x hu hx => ?_⟩
      rw [List.getElem?_map] at hu
      obtain ⟨k, hk, rfl⟩ := Option.map_eq_some_iff.1 hu
      obtain ⟨hlt, e⟩ := List.getElem?_eq_some_iff.1 hk
      simp at e; subst e
      exact hrep _ _ _ _ hel hx
    · by_cases hs0 : s = 0
      · have : (els.mapIdx fun i el => (List.range el.length).map fun j => vs i j).flatten = [] := by
          rw [List.flatten_eq_nil_iff]
          intro l hl
          obtain ⟨i, hi⟩ := List.mem_iff_getElem?.1 hl
          rw [List.getElem?_mapIdx] at hi
          obtain ⟨el, hel, rfl⟩ := Option.map_eq_some_iff.1 hi
          have := hs el (List.mem_of_getElem? hel)
          simp [this, hs0]
        rw [this] at hv; simp at hv
      · have hss : ∀ l ∈ (els.mapIdx fun i el => (List.range el.length).map fun j => vs i j), l.length = s := fun l hl => by
          obtain ⟨i, hi⟩ := List.mem_iff_getElem?.1 hl
          rw [List.getElem?_mapIdx] at hi
          obtain ⟨el, hel, rfl⟩ := Option.map_eq_some_iff.1 hi
          simpa using hs el (List.mem_of_getElem? hel)
        have hlen := flat_len hss
        have hlt := (List.getElem?_eq_some_iff.1 hv).1
        rw [hlen] at hlt
        simp only [List.length_mapIdx] at hlt
        have hi : i / s < els.length := Nat.div_lt_of_lt_mul (by rw [Nat.mul_comm]; exact hlt)
        have hr : i % s < s := Nat.mod_lt _ (by omega)
        have hel : els[i / s]? = some els[i / s] := by simp [hi]
        have hl2 : (els[i / s]).length = s := hs _ (by simp)
        have hj : (els[i / s])[i % s]? = some (els[i / s])[i % s] := by simp [hl2, hr]
        have e1 : (els.mapIdx fun i el => (List.range el.length).map fun j => vs i j)[i / s]? = some ((List.range (els[i / s]).length).map fun j => vs (i / s) j) := by
          rw [List.getElem?_mapIdx, hel]; rfl
        have e2 : ((List.range (els[i / s]).length).map fun j => vs (i / s) j)[i % s]? = some (vs (i / s) (i % s)) := by
          rw [List.getElem?_map, List.getElem?_range (by rw [hl2]; exact hr)]; rfl
        have e3 := flat_get hss e1 e2
        have e4 : i / s * s + i % s = i := by rw [Nat.mul_comm]; exact Nat.div_add_mod i s
        rw [e4] at e3
        rw [e3] at hv; cases hv
        have := hfx _ _ _ _ hel hj
        rw [Nat.add_assoc, e4] at this
        exact this
theorem rep_addr {v : Value} {els : List (List V)} {tk : Tk} (h : Rep G v (.sl els tk)) (hne : els ≠ []) : ∃ b o c, v = .slice (some ⟨b, o, none⟩) els.length c := by
  cases h with
  | sl0 => exact absurd rfl hne
  | sl b o c => exact ⟨b, o, c, rfl⟩
theorem rep_own {v : Value} {els : List (List V)} {q : Path} {s : Nat} (h : Rep G v (.sl els (.own q s))) : ∃ b c, v = .slice (some ⟨b, 0, none⟩) els.length c ∧ els.length ≤ c ∧ c ≤ 9223372036854775807 ∧ G.tl q = some (b, c, s, els.length) := by
  cases h with
  | sl b o c s' _ _ vs hs hc hm hfx hrep hex htk =>
    obtain ⟨rfl, rfl, ht⟩ := htk q s rfl
    exact ⟨b, c, rfl, hc, hm, ht⟩
theorem rep_ex {v : Value} {els : List (List V)} (h : Rep G v (.sl els .ex)) : ∃ b o, v = .slice (some ⟨b, o, none⟩) els.length els.length := by
  cases h with
  | sl b o c s' _ _ vs hs hc hm hfx hrep hex htk => exact ⟨b, o, by rw [hex rfl]⟩

/-! ### A literal of a slice -/
theorem fill_row (size : Nat) : ∀ (L : List (Nat × Value)) (k : Nat) (arr : Array Value), L.map (·.1) = List.range' k L.length → (∀ x ∈ L, x.2.cells.size = size) → (k + L.length) * size ≤ arr.size →
    Instr.fill (fun i => some (i * size, size)) arr L = some (arr.toList.take (k * size) ++ (L.map fun x => x.2.cells.toList).flatten ++ arr.toList.drop ((k + L.length) * size)).toArray
  | [], k, arr, _, _, _ => by simp [Instr.fill]
  | (i, v) :: L, k, arr, hk, hs, hf => by
    simp only [List.map_cons, List.length_cons, List.range'_succ, List.cons.injEq] at hk
    obtain ⟨rfl, hk⟩ := hk
    have hv : v.cells.size = size := hs (i, v) (by simp)
    have hf' : (i + (L.length + 1)) * size ≤ arr.size := by simpa using hf
    have e1 : (i + (L.length + 1)) * size = i * size + L.length * size + size := by rw [Nat.add_mul, Nat.add_mul, Nat.one_mul]; omega
    have hfit : i * size + v.cells.toList.length ≤ arr.size := by simp [hv]; omega
    have e2 := foldl_set v.cells.toList arr (i * size) hfit
    have hz : (v.cells.zipIdx.foldl (fun cs (c, j) => cs.setIfInBounds (i * size + j) c) arr) = (arr.toList.take (i * size) ++ v.cells.toList ++ arr.toList.drop (i * size + v.cells.toList.length)).toArray := by
      rw [← e2, ← Array.foldl_toList]; simp
    have hlv : v.cells.toList.length = size := by simpa using hv
    have hsz : (arr.toList.take (i * size) ++ v.cells.toList ++ arr.toList.drop (i * size + v.cells.toList.length)).toArray.size = arr.size := by
      simp only [List.size_toArray, List.length_append, List.length_take, List.length_drop, Array.length_toList, hlv]; omega
    have ih := fill_row size L (i + 1) (arr.toList.take (i * size) ++ v.cells.toList ++ arr.toList.drop (i * size + v.cells.toList.length)).toArray hk (fun x hx => hs x (by simp [hx])) (by rw [hsz, show i + 1 + L.length = i + (L.length + 1) by omega]; exact hf')
    simp only [Instr.fill, hv, ne_eq, not_true_eq_false, decide_false, Bool.false_or, hz]
    rw [if_neg (by simp; omega), ih]
    congr 2
    have h1 : (i + 1) * size = i * size + size := by rw [Nat.add_mul, Nat.one_mul]
    have hti : (arr.toList.take (i * size)).length = i * size := by simp; omega
    rw [h1, hlv]
    have t1 : (arr.toList.take (i * size) ++ v.cells.toList ++ arr.toList.drop (i * size + size)).take (i * size + size) = arr.toList.take (i * size) ++ v.cells.toList := by
      rw [List.take_append_of_le_length (by simp [hlv]; omega)]
      apply List.take_of_length_le
      simp [hlv]; omega
    have t2 : (arr.toList.take (i * size) ++ v.cells.toList ++ arr.toList.drop (i * size + size)).drop ((i + 1 + L.length) * size) = arr.toList.drop ((i + (L.length + 1)) * size) := by
      have e3 : (i + 1 + L.length) * size = (i * size + size) + L.length * size := by rw [Nat.add_mul, h1]
      rw [e3, List.drop_append, List.drop_eq_nil_of_le (by simp [hlv]; omega), List.nil_append, List.drop_drop]
      congr 1
      simp only [List.length_append, hti, hlv]
      omega
    rw [t1, t2]
    simp [List.append_assoc]
theorem done_lit (h : Rel N p ds G σ a w) (o : Oper) (t : TypeId) (len : Nat) (ps : Array (Nat × Operand)) (ho : o.op = .buildSlice t len ps) (hp : (opCore P E p σ.ev σ.M σ.K σ.cnt o.dst o.op).pre) : Done P N p ds G σ a w o (opCore P E p σ.ev σ.M σ.K σ.cnt o.dst o.op) := by
  rw [ho] at hp ⊢
  simp only [opCore] at hp ⊢
  split at hp
  · rename_i e hu
    try simp only [hu]
    obtain ⟨h1, h2, h3, h4, h5⟩ := hp
    obtain ⟨inf, hi, hsz⟩ := info_of_cells h2
    have hzE : ∃ z, zval P e = some z ∧ (!z.isJunk && z.cells.length == P.cellsOf e) = true := by
      cases hz : zval P e with
      | none => rw [hz] at h4; cases h4
      | some z => rw [hz] at h4; exact ⟨z, rfl, h4⟩
    obtain ⟨z, hz, hzc⟩ := hzE
    simp only [Bool.and_eq_true, Bool.not_eq_true', beq_iff_eq] at hzc
    obtain ⟨z0, hz0, hrz, _⟩ := zval_some hz G w
    have hzl : z0.cells.size = P.cellsOf e := by have := (rep_cells hrz hzc.1).1; simp at this; omega
    -- the parts
    have hall : ∀ x ∈ ps.toList, (σ.ev x.2).isJunk = false ∧ (σ.ev x.2).cells.length = P.cellsOf e := fun x hx => by
      have := List.all_eq_true.1 h5 x hx
      simpa [Bool.and_eq_true] using this
    have hL : ∀ x ∈ (ps.toList.map fun x => (x.1, a.eval x.2)), x.2.cells.size = P.cellsOf e := fun x hx => by
      obtain ⟨y, hy, rfl⟩ := List.mem_map.1 hx
      have := (rep_cells (h.eval y.2) (hall y hy).1).1
      simp at this
      rw [this]; exact (hall y hy).2
    have hll : ps.toList.length = len := by have := congrArg List.length h1; simpa using this
    have hks : (ps.toList.map fun x => (x.1, a.eval x.2)).map (·.1) = List.range' 0 (ps.toList.map fun x => (x.1, a.eval x.2)).length := by
      rw [List.map_map, List.length_map, hll, ← List.range_eq_range', ← h1]; rfl
    have hfill := fill_row (P.cellsOf e) (ps.toList.map fun x => (x.1, a.eval x.2)) 0 ((Array.range (len * P.cellsOf e)).map (z0.cells[· % z0.cells.size]!)) hks hL (by simp [hll])
    have hvs : ((ps.toList.map fun x => (x.1, a.eval x.2)).map fun x => x.2.cells.toList).flatten.length = len * P.cellsOf e := by
      rw [flat_len (s := P.cellsOf e) (fun l hl => by obtain ⟨y, hy, rfl⟩ := List.mem_map.1 hl; simpa using hL y hy)]
      simp [hll]
    simp only [List.length_map, hll, Nat.zero_mul, List.take_zero, List.nil_append, Nat.zero_add] at hfill
    rw [List.drop_eq_nil_of_le (by simp), List.append_nil] at hfill
    generalize hvv : ((ps.toList.map fun x => (x.1, a.eval x.2)).map fun x => x.2.cells.toList) = vs at hfill hvs
    have hs := h.sim.alloc_fix vs.flatten.toArray e vs.flatten (fun i v hv => by simpa using hv)
    have ht := Tr.alloc_fix h.sim p vs.flatten.toArray e vs.flatten
    have hle := ht.le
    have hrep : Rep (G.fix w.heap.size vs.flatten) (.slice (some ⟨w.heap.size, 0, none⟩) (ps.toList.map fun x => (σ.ev x.2).cells.map V.er).length (ps.toList.map fun x => (σ.ev x.2).cells.map V.er).length) (.sl (ps.toList.map fun x => (σ.ev x.2).cells.map V.er) .ex) := by
      refine rep_slice (vs := vs) (s := P.cellsOf e) .ex (by rw [← hvv]; simp) (fun el hel => ?_) (fun i v el hv hel => ?_) (fun i v hv => ?_) (Nat.le_refl _) (by simp only [List.length_map, hll]; have := Nat.mul_le_mul_left len h2; omega) (fun _ => rfl) (by simp)
      · obtain ⟨y, hy, rfl⟩ := List.mem_map.1 hel
        simpa using (hall y hy).2
      · rw [← hvv, List.map_map, List.getElem?_map] at hv
        obtain ⟨y, hy, rfl⟩ := Option.map_eq_some_iff.1 hv
        rw [List.getElem?_map, hy] at hel
        simp only [Option.map_some, Option.some.injEq] at hel
        subst hel
        exact (repL_er (rep_cells (h.eval y.2) (hall y (List.mem_of_getElem? hy)).1)).mono hle
      · simp only [Ghost.fix, if_true, Nat.zero_add]; exact hv
    rw [List.length_map, hll] at hrep
    refine ⟨_, _, _, .inl ?_, hrep, ht, h.same hle rfl rfl hs⟩
    obtain ⟨dst, op, type, pos, after, guard⟩ := o
    simp only at ho; subst ho
    refine run_v ?_
    have hbig : ¬ 16777216 < len * P.cellsOf e := by omega
    have hpm : (ps.map fun (i, x) => (i, a.eval x)).toList = ps.toList.map fun x => (x.1, a.eval x.2) := by rw [Array.toList_map]
    simp only [Instr.buildSlice, Sem.run_bind, run_underlying hu, Result.andThen_ok, run_sizeOf hi, show (2 : Nat) ^ 24 = 16777216 from rfl, gt_iff_lt, hbig, if_false]
    by_cases hl0 : len * P.cellsOf e = 0
    · have hlen : len = 0 := by
        rcases Nat.mul_eq_zero.1 hl0 with h | h
        · exact h
        · omega
      have : vs = [] := by
        have : vs.length = 0 := by rw [← hvv]; simp [hll, hlen]
        exact List.eq_nil_of_length_eq_zero this
      subst this
      have hpe : ps.toList = [] := List.eq_nil_of_length_eq_zero (by rw [hll, hlen])
      have hps : ps = #[] := Array.ext' (by simpa using hpe)
      subst hps
      subst hlen
      simp [Instr.fill, newRow, show Array.range 0 = #[] from rfl]
    · simp only [hl0, if_false, Sem.run_bind, hz0, Result.andThen_ok, Sem.run_pure, hpm, hfill]
      simp [newRow]
  · exact hp.elim

/-! ### make -/
theorem wrap_i64 {n : Int} (h0 : 0 ≤ n) (h1 : n ≤ 140737488355328) : IntKind.i64.wrap n = n := by
  show (if (true && decide (n % (18446744073709551616 : Int) ≥ 9223372036854775808)) = true then n % 18446744073709551616 - 18446744073709551616 else n % 18446744073709551616) = n
  have : n % (18446744073709551616 : Int) = n := Int.emod_eq_of_lt h0 (by omega)
  rw [this, if_neg (by simp; omega)]
theorem replicate_get (c : Nat) (l : List V) (s : Nat) (hl : l.length = s) (hs : 0 < s) (i : Nat) (hi : i < c * s) : (List.replicate c l).flatten[i]? = l[i % s]? := by
  have hj : i / s < c := Nat.div_lt_of_lt_mul (by rw [Nat.mul_comm]; exact hi)
  have hr : i % s < s := Nat.mod_lt _ hs
  have := flat_get (ls := List.replicate c l) (s := s) (fun l' hl' => by rw [(List.mem_replicate.1 hl').2]; exact hl) (i := i / s) (j := i % s) (l := l) (x := l[i % s]) (by simp [hj]) (by simp)
  rw [show i / s * s + i % s = i by rw [Nat.mul_comm]; exact Nat.div_add_mod i s] at this
  rw [this]; simp [hl, hr]
theorem run_make {t e : TypeId} {k k' : IntKind} {l c : Int} {z0 : Value} (hu : P.underlying t = some (.slice e)) (h0 : 0 ≤ l) (h1 : l ≤ c) (h2 : c ≤ 140737488355328) (h3 : c * P.bytesOf e ≤ 140737488355328) (h4 : 0 < P.cellsOf e)
    (hz : (zeroValue e).run P w = .ok z0 w) (hzs : z0.cells.size = P.cellsOf e) :
    (Instr.makeSlice t (.int k l) (.int k' c)).run P w = .ok (.slice (some ⟨w.heap.size, 0, none⟩) l.toNat c.toNat) (w.alloc (.cells ((Array.range (c.toNat * P.cellsOf e)).map (z0.cells[· % z0.cells.size]!)) e)) := by
  obtain ⟨inf, hi, hsz⟩ := info_of_cells h4
  have hby : P.bytesOf e = inf.bytes := by simp [Program.bytesOf, hi]
  have hcz : ((inf.bytes : Int) * c > 2 ^ 48) = False := by
    rw [hby, Int.mul_comm] at h3
    exact eq_false (Int.not_lt.2 (Int.le_trans h3 (by decide)))
  have e1 : (decide (IntKind.i64.wrap c < 0) || decide ((inf.bytes : Int) * IntKind.i64.wrap c > 2 ^ 48) || decide (IntKind.i64.wrap l < 0) || decide (IntKind.i64.wrap l > IntKind.i64.wrap c)) = false := by
    rw [wrap_i64 (by omega) h2, wrap_i64 h0 (by omega)]
    simp only [Bool.or_eq_false_iff, decide_eq_false_iff_not]
    exact ⟨⟨⟨by omega, of_eq_false hcz⟩, by omega⟩, by omega⟩
  simp only [Instr.makeSlice, Sem.run_bind, run_underlying hu, Result.andThen_ok, asInt, asIntOf, Sem.run_pure, typeInfo, run_program, hi]
  rw [e1]
  simp only [Bool.false_eq_true, if_false, Sem.run_bind, run_askRoom, Result.andThen_ok, run_sizeOf hi, wrap_i64 (show 0 ≤ c by omega) h2, wrap_i64 h0 (show l ≤ 140737488355328 by omega)]
  by_cases hn : c.toNat * P.cellsOf e = 0
  · simp [hn, newRow, show Array.range 0 = #[] from rfl]
  · simp only [hn, if_false, Sem.run_bind, hz, Result.andThen_ok, Sem.run_pure]
    simp [newRow]
theorem done_make (h : Rel N p ds G σ a w) (o : Oper) (t : TypeId) (x y : Operand) (ho : o.op = .makeSlice t x y) (hp : (opCore P E p σ.ev σ.M σ.K σ.cnt o.dst o.op).pre) : Done P N p ds G σ a w o (opCore P E p σ.ev σ.M σ.K σ.cnt o.dst o.op) := by
  rw [ho] at hp ⊢
  simp only [opCore, coreMake] at hp ⊢
  split at hp
  · rename_i e hu
    try simp only [hu]
    split at hp
    · rename_i k l k' c z hl hc hz
      have hx := h.eval x
      have hy := h.eval y
      rw [hl] at hx; rw [hc] at hy
      have ex := rep_int_inv hx
      have ey := rep_int_inv hy
      try simp only [hl, hc, hz]
      obtain ⟨z0, hz0, hrz, _⟩ := zval_some hz G w
      have hid : p <:+ nid σ.cnt p o.dst := Rel.pre_suffix _ _ _
      have hfr := h.fresh o.dst (nid σ.cnt p o.dst) (List.suffix_refl _)
      have hexec : ∀ v w', (Instr.makeSlice t (.int k l) (.int k' c)).run P w = .ok v w' → (execOp a.eval o).run P w = .ok (.value v) w' := fun v w' hr => by
        obtain ⟨dst, op, type, pos, after, guard⟩ := o
        simp only at ho; subst ho
        refine run_v ?_
        rw [ex, ey]; exact hr
      split at hp
      · obtain ⟨h1, h2, h3, h4, h5, h6, h7⟩ := hp
        subst h4
        have hzl : z0.cells.size = P.cellsOf e := by have := (rep_cells hrz h6).1; simp at this; omega
        have hrun := run_make (P := P) (w := w) (k := k) (k' := k') hu (Int.le_refl 0) h1 h2 h3 h5 hz0 hzl
        have hs := h.sim.alloc_row (K0 := σ.K) (fun _ h => h) hfr.2 ((Array.range (c.toNat * P.cellsOf e)).map (z0.cells[· % z0.cells.size]!)) e [] (fun i v hv => by simp at hv) c.toNat (P.cellsOf e) 0 (by simp) (Nat.zero_le _) (by simp)
        have ht := Tr.alloc_row (K0 := σ.K) h.sim (fun _ h => h) (p := nid σ.cnt p o.dst) (List.suffix_refl _) hfr.2 ((Array.range (c.toNat * P.cellsOf e)).map (z0.cells[· % z0.cells.size]!)) e [] c.toNat (P.cellsOf e) 0
        refine ⟨_, _, _, .inl (hexec _ _ hrun), ?_, ht.mono hid, h.next o.dst ht hs⟩
        exact .sl w.heap.size 0 c.toNat (P.cellsOf e) [] _ (fun _ _ => undef) (by simp) (by simp) (by omega) (fun i j el x h => by simp at h) (fun i j el x h => by simp at h) (by simp) (fun q s' e' => by cases e'; exact ⟨rfl, rfl, by simp [Ghost.addTok]⟩)
      · obtain ⟨h1, h2, h3, h4, h5, h6, h7⟩ := hp
        have hzl : z0.cells.size = P.cellsOf e := by have := (rep_cells hrz h6).1; simp at this; omega
        have hrun := run_make (P := P) (w := w) (k := k) (k' := k') hu h1 h2 h3 h4 h5 hz0 hzl
        have hrl : RepL G ((Array.range (c.toNat * P.cellsOf e)).map (z0.cells[· % z0.cells.size]!)).toList (List.replicate c.toNat z.cells).flatten := by
          have hzr := rep_cells hrz h6
          have hlf : (List.replicate c.toNat z.cells).flatten.length = c.toNat * P.cellsOf e := by
            rw [flat_len (s := P.cellsOf e) (fun l hl => by rw [(List.mem_replicate.1 hl).2]; exact h7)]; simp
          refine ⟨by simp [hlf], fun i v x hv hx => ?_⟩
          have hi : i < c.toNat * P.cellsOf e := by rw [← hlf]; exact (List.getElem?_eq_some_iff.1 hx).1
          rw [replicate_get _ _ _ h7 h5 i hi] at hx
          have hm : i % P.cellsOf e < z0.cells.size := by rw [hzl]; exact Nat.mod_lt _ h5
          have hv' : v = z0.cells[i % P.cellsOf e]'hm := by
            simp [hi, hzl, hm] at hv
            rw [← hv]; exact getElem!_pos z0.cells _ hm
          exact hzr.2 (i % P.cellsOf e) v x (by rw [hv']; simp [hm]) hx
        have hs := h.sim.alloc_box hfr.1 ((Array.range (c.toNat * P.cellsOf e)).map (z0.cells[· % z0.cells.size]!)) e _ hrl
        have ht := Tr.alloc_box h.sim (p := nid σ.cnt p o.dst) (List.suffix_refl _) hfr.1 ((Array.range (c.toNat * P.cellsOf e)).map (z0.cells[· % z0.cells.size]!)) e (List.replicate c.toNat z.cells).flatten
        exact ⟨_, _, _, .inl (hexec _ _ hrun), .ms _ 0 _ _ _ (by simp [Ghost.addLoc]), ht.mono hid, h.next o.dst ht hs⟩
    · exact hp.elim
  · exact hp.elim
end
end Go.Proofs.Ytiippmhlkcbjmaa.Ax
