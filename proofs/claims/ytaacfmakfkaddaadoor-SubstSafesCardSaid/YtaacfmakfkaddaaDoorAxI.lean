/- Abstract execution, part G: literals of slices, make, append, calls: one step is sound. -/
import Derived.Test.YtaacfmakfkaddaaDoorAxF
set_option linter.unusedVariables false
set_option linter.unusedSimpArgs false
namespace Go.Proofs.YtaacfmakfkaddaaDoor.Ax
section
open Go

section
variable {P : Program} {E : Env} {N : Nat} {p : Path} {ds : List Deferred} {G : Ghost} {σ : St} {a : Act} {w : World}

/-- What a slice's reading rests on, as lists. -/
theorem rep_lists {b o n c : Nat} {els : List (List V)} {tk : Tk} (h : Rep G (.slice (some ⟨b, o, none⟩) n c) (.sl els tk)) :
    n = els.length ∧ n ≤ c ∧ ∃ vs : List (List Value), vs.length = els.length ∧ (∀ (i : Nat) v el, vs[i]? = some v → els[i]? = some el → RepL G v el) ∧ (∀ (i : Nat) v, vs.flatten[i]? = some v → G.fx b (o + i) = some v) := by
  cases h with
  | sl0 A c => exact ⟨rfl, Nat.zero_le _, [], rfl, fun i v el h => by simp at h, fun i v h => by simp at h⟩
  | sl b o c s els tk vs hs hc hm hfx hrep hex htk =>
    refine ⟨rfl, hc, els.mapIdx fun i el => (List.range el.length).map fun j => vs i j, by simp, fun i v el hv hel => ?_, fun i v hv => ?_⟩
    · rw [List.getElem?_mapIdx, hel] at hv
      simp only [Option.map_some, Option.some.injEq] at hv
      subst hv
      refine ⟨by simp, fun j u x hu hx => ?_⟩
      rw [List.getElem?_map] at hu
      obtain ⟨k, hk, rfl⟩ := Option.map_eq_some_iff.1 hu
      obtain ⟨hlt, e⟩ := List.getElem?_eq_some_iff.1 hk
      simp at e; subst e
      exact hrep _ _ _ _ hel hx
    · by_cases hs0 : s = 0
      · have : (els.mapIdx fun i el => (List.range el.length).map fun j => vs i j).flatten = [] := by
          rw [List.flatten_eq_nil_iff]
          intro l hl
          obtain ⟨i, hi⟩ := List.mem_iff_getElem?.1 hl
          rw [List.getElem?_mapIdx] at hi
          obtain ⟨el, hel, rfl⟩ := Option.map_eq_some_iff.1 hi
          have := hs el (List.mem_of_getElem? hel)
          simp [this, hs0]
        rw [this] at hv; simp at hv
      · have hss : ∀ l ∈ (els.mapIdx fun i el => (List.range el.length).map fun j => vs i j), l.length = s := fun l hl => by
          obtain ⟨i, hi⟩ := List.mem_iff_getElem?.1 hl
          rw [List.getElem?_mapIdx] at hi
          obtain ⟨el, hel, rfl⟩ := Option.map_eq_some_iff.1 hi
          simpa using hs el (List.mem_of_getElem? hel)
        have hlen := flat_len hss
        have hlt := (List.getElem?_eq_some_iff.1 hv).1
        rw [hlen] at hlt
        simp only [List.length_mapIdx] at hlt
        have hi : i / s < els.length := Nat.div_lt_of_lt_mul (by rw [Nat.mul_comm]; exact hlt)
        have hr : i % s < s := Nat.mod_lt _ (by omega)
        have hel : els[i / s]? = some els[i / s] := by simp [hi]
        have hl2 : (els[i / s]).length = s := hs _ (by simp)
        have hj : (els[i / s])[i % s]? = some (els[i / s])[i % s] := by simp [hl2, hr]
        have e1 : (els.mapIdx fun i el => (List.range el.length).map fun j => vs i j)[i / s]? = some ((List.range (els[i / s]).length).map fun j => vs (i / s) j) := by
          rw [List.getElem?_mapIdx, hel]; rfl
        have e2 : ((List.range (els[i / s]).length).map fun j => vs (i / s) j)[i % s]? = some (vs (i / s) (i % s)) := by
          rw [List.getElem?_map, List.getElem?_range (by rw [hl2]; exact hr)]; rfl
        have e3 := flat_get hss e1 e2
        have e4 : i / s * s + i % s = i := by rw [Nat.mul_comm]; exact Nat.div_add_mod i s
        rw [e4] at e3
        rw [e3] at hv; cases hv
        have := hfx _ _ _ _ hel hj
        rw [Nat.add_assoc, e4] at this
        exact this
theorem rep_addr {v : Value} {els : List (List V)} {tk : Tk} (h : Rep G v (.sl els tk)) (hne : els ≠ []) : ∃ b o c, v = .slice (some ⟨b, o, none⟩) els.length c := by
  cases h with
  | sl0 => exact absurd rfl hne
  | sl b o c => exact ⟨b, o, c, rfl⟩
theorem rep_own {v : Value} {els : List (List V)} {q : Path} {s : Nat} (h : Rep G v (.sl els (.own q s))) : ∃ b c, v = .slice (some ⟨b, 0, none⟩) els.length c ∧ els.length ≤ c ∧ c ≤ 9223372036854775807 ∧ G.tl q = some (b, c, s, els.length) := by
  cases h with
  | sl b o c s' _ _ vs hs hc hm hfx hrep hex htk =>
    obtain ⟨rfl, rfl, ht⟩ := htk q s rfl
    exact ⟨b, c, rfl, hc, hm, ht⟩
theorem rep_ex {v : Value} {els : List (List V)} (h : Rep G v (.sl els .ex)) : ∃ b o, v = .slice (some ⟨b, o, none⟩) els.length els.length := by
  cases h with
  | sl b o c s' _ _ vs hs hc hm hfx hrep hex htk => exact ⟨b, o, by rw [hex rfl]⟩

/-! ### A literal of a slice -/
theorem fill_row (size : Nat) : ∀ (L : List (Nat × Value)) (k : Nat) (arr : Array Value), L.map (·.1) = List.range' k L.length → (∀ x ∈ L, x.2.cells.size = size) → (k + L.length) * size ≤ arr.size →
    Instr.fill (fun i => some (i * size, size)) arr L = some (arr.toList.take (k * size) ++ (L.map fun x => x.2.cells.toList).flatten ++ arr.toList.drop ((k + L.length) * size)).toArray
  | [], k, arr, _, _, _ => by simp [Instr.fill]
  | (i, v) :: L, k, arr, hk, hs, hf => by
    simp only [List.map_cons, List.length_cons, List.range'_succ, List.cons.injEq] at hk
    obtain ⟨rfl, hk⟩ := hk
    have hv : v.cells.size = size := hs (i, v) (by simp)
    have hf' : (i + (L.length + 1)) * size ≤ arr.size := by simpa using hf
    have e1 : (i + (L.length + 1)) * size = i * size + L.length * size + size := by rw [Nat.add_mul, Nat.add_mul, Nat.one_mul]; omega
    have hfit : i * size + v.cells.toList.length ≤ arr.size := by simp [hv]; omega
    have e2 := foldl_set v.cells.toList arr (i * size) hfit
    have hz : (v.cells.zipIdx.foldl (fun cs (c, j) => cs.setIfInBounds (i * size + j) c) arr) = (arr.toList.take (i * size) ++ v.cells.toList ++ arr.toList.drop (i * size + v.cells.toList.length)).toArray := by
      rw [← e2, ← Array.foldl_toList]; simp
    have hlv : v.cells.toList.length = size := by simpa using hv
    have hsz : (arr.toList.take (i * size) ++ v.cells.toList ++ arr.toList.drop (i * size + v.cells.toList.length)).toArray.size = arr.size := by
      simp only [List.size_toArray, List.length_append, List.length_take, List.length_drop, Array.length_toList, hlv]; omega
    have ih := fill_row size L (i + 1) (arr.toList.take (i * size) ++ v.cells.toList ++ arr.toList.drop (i * size + v.cells.toList.length)).toArray hk (fun x hx => hs x (by simp [hx])) (by rw [hsz, show i + 1 + L.length = i + (L.length + 1) by omega]; exact hf')
    simp only [Instr.fill, hv, ne_eq, not_true_eq_false, decide_false, Bool.false_or, hz]
    rw [if_neg (by simp; omega), ih]
    congr 2
    have h1 : (i + 1) * size = i * size + size := by rw [Nat.add_mul, Nat.one_mul]
    have hti : (arr.toList.take (i * size)).length = i * size := by simp; omega
    rw [h1, hlv]
    have t1 : (arr.toList.take (i * size) ++ v.cells.toList ++ arr.toList.drop (i * size + size)).take (i * size + size) = arr.toList.take (i * size) ++ v.cells.toList := by
      rw [List.take_append_of_le_length (by simp [hlv]; omega)]
      apply List.take_of_length_le
      simp [hlv]; omega
    have t2 : (arr.toList.take (i * size) ++ v.cells.toList ++ arr.toList.drop (i * size + size)).drop ((i + 1 + L.length) * size) = arr.toList.drop ((i + (L.length + 1)) * size) := by
      have e3 : (i + 1 + L.length) * size = (i * size + size) + L.length * size := by rw [Nat.add_mul, h1]
      rw [e3, List.drop_append, List.drop_eq_nil_of_le (by simp [hlv]; omega), List.nil_append, List.drop_drop]
      congr 1
      simp only [List.length_append, hti, hlv]
      omega
    rw [t1, t2]
    simp [List.append_assoc]
theorem done_lit (h : Rel N p ds G σ a w) (o : Oper) (t : TypeId) (len : Nat) (ps : Array (Nat × Operand)) (ho : o.op = .buildSlice t len ps) (hp : (opCore P E p σ.ev σ.M σ.K σ.cnt o.dst o.op).pre) : Done P N p ds G σ a w o (opCore P E p σ.ev σ.M σ.K σ.cnt o.dst o.op) := by
  rw [ho] at hp ⊢
  simp only [opCore] at hp ⊢
  split at hp
  · rename_i e hu
    try simp only [hu]
    obtain ⟨h1, h2, h3, h4, h5⟩ := hp
    obtain ⟨inf, hi, hsz⟩ := info_of_cells h2
    have hzE : ∃ z, zval P e = some z ∧ (!z.isJunk && z.cells.length == P.cellsOf e) = true := by
      cases hz : zval P e with
      | none => rw [hz] at h4; cases h4
      | some z => rw [hz] at h4; exact ⟨z, rfl, h4⟩
    obtain ⟨z, hz, hzc⟩ := hzE
    simp only [Bool.and_eq_true, Bool.not_eq_true', beq_iff_eq] at hzc
    obtain ⟨z0, hz0, hrz, _⟩ := zval_some hz G w
    have hzl : z0.cells.size = P.cellsOf e := by have := (rep_cells hrz hzc.1).1; simp at this; omega
    -- the parts
    have hall : ∀ x ∈ ps.toList, (σ.ev x.2).isJunk = false ∧ (σ.ev x.2).cells.length = P.cellsOf e := fun x hx => by
      have := List.all_eq_true.1 h5 x hx
      simpa [Bool.and_eq_true] using this
    have hL : ∀ x ∈ (ps.toList.map fun x => (x.1, a.eval x.2)), x.2.cells.size = P.cellsOf e := fun x hx => by
      obtain ⟨y, hy, rfl⟩ := List.mem_map.1 hx
      have := (rep_cells (h.eval y.2) (hall y hy).1).1
      simp at this
      rw [this]; exact (hall y hy).2
    have hll : ps.toList.length = len := by have := congrArg List.length h1; simpa using this
    have hks : (ps.toList.map fun x => (x.1, a.eval x.2)).map (·.1) = List.range' 0 (ps.toList.map fun x => (x.1, a.eval x.2)).length := by
      rw [List.map_map, List.length_map, hll, ← List.range_eq_range', ← h1]; rfl
    have hfill := fill_row (P.cellsOf e) (ps.toList.map fun x => (x.1, a.eval x.2)) 0 ((Array.range (len * P.cellsOf e)).map (z0.cells[· % z0.cells.size]!)) hks hL (by simp [hll])
    have hvs : ((ps.toList.map fun x => (x.1, a.eval x.2)).map fun x => x.2.cells.toList).flatten.length = len * P.cellsOf e := by
      rw [flat_len (s := P.cellsOf e) (fun l hl => by obtain ⟨y, hy, rfl⟩ := List.mem_map.1 hl; simpa using hL y hy)]
      simp [hll]
    simp only [List.length_map, hll, Nat.zero_mul, List.take_zero, List.nil_append, Nat.zero_add] at hfill
    rw [List.drop_eq_nil_of_le (by simp), List.append_nil] at hfill
    generalize hvv : ((ps.toList.map fun x => (x.1, a.eval x.2)).map fun x => x.2.cells.toList) = vs at hfill hvs
    have hs := h.sim.alloc_fix vs.flatten.toArray e vs.flatten (fun i v hv => by simpa using hv)
    have ht := Tr.alloc_fix h.sim p vs.flatten.toArray e vs.flatten
    have hle := ht.le
    have hrep : Rep (G.fix w.heap.size vs.flatten) (.slice (some ⟨w.heap.size, 0, none⟩) (ps.toList.map fun x => (σ.ev x.2).cells.map V.er).length (ps.toList.map fun x => (σ.ev x.2).cells.map V.er).length) (.sl (ps.toList.map fun x => (σ.ev x.2).cells.map V.er) .ex) := by
      refine rep_slice (vs := vs) (s := P.cellsOf e) .ex (by rw [← hvv]; simp) (fun el hel => ?_) (fun i v el hv hel => ?_) (fun i v hv => ?_) (Nat.le_refl _) (by simp only [List.length_map, hll]; have := Nat.mul_le_mul_left len h2; omega) (fun _ => rfl) (by simp)
      · obtain ⟨y, hy, rfl⟩ := List.mem_map.1 hel
        simpa using (hall y hy).2
      · rw [← hvv, List.map_map, List.getElem?_map] at hv
        obtain ⟨y, hy, rfl⟩ := Option.map_eq_some_iff.1 hv
        rw [List.getElem?_map, hy] at hel
        simp only [Option.map_some, Option.some.injEq] at hel
        subst hel
        exact (repL_er (rep_cells (h.eval y.2) (hall y (List.mem_of_getElem? hy)).1)).mono hle
      · simp only [Ghost.fix, if_true, Nat.zero_add]; exact hv
    rw [List.length_map, hll] at hrep
    refine ⟨_, _, _, .inl ?_, hrep, ht, h.same hle rfl rfl hs⟩
    obtain ⟨dst, op, type, pos, after, guard⟩ := o
    simp only at ho; subst ho
    refine run_v ?_
    have hbig : ¬ 16777216 < len * P.cellsOf e := by omega
    have hpm : (ps.map fun (i, x) => (i, a.eval x)).toList = ps.toList.map fun x => (x.1, a.eval x.2) := by rw [Array.toList_map]
    simp only [Instr.buildSlice, Sem.run_bind, run_underlying hu, Result.andThen_ok, run_sizeOf hi, show (2 : Nat) ^ 24 = 16777216 from rfl, gt_iff_lt, hbig, if_false]
    by_cases hl0 : len * P.cellsOf e = 0
    · have hlen : len = 0 := by
        rcases Nat.mul_eq_zero.1 hl0 with h | h
        · exact h
        · omega
      have : vs = [] := by
        have : vs.length = 0 := by rw [← hvv]; simp [hll, hlen]
        exact List.eq_nil_of_length_eq_zero this
      subst this
      have hpe : ps.toList = [] := List.eq_nil_of_length_eq_zero (by rw [hll, hlen])
      have hps : ps = #[] := Array.ext' (by simpa using hpe)
      subst hps
      subst hlen
      simp [Instr.fill, newRow, show Array.range 0 = #[] from rfl]
    · simp only [hl0, if_false, Sem.run_bind, hz0, Result.andThen_ok, Sem.run_pure, hpm, hfill]
      simp [newRow]
  · exact hp.elim

/-! ### make -/
theorem wrap_i64 {n : Int} (h0 : 0 ≤ n) (h1 : n ≤ 140737488355328) : IntKind.i64.wrap n = n := by
  show (if (true && decide (n % (18446744073709551616 : Int) ≥ 9223372036854775808)) = true then n % 18446744073709551616 - 18446744073709551616 else n % 18446744073709551616) = n
  have : n % (18446744073709551616 : Int) = n := Int.emod_eq_of_lt h0 (by omega)
  rw [this, if_neg (by simp; omega)]
theorem replicate_get (c : Nat) (l : List V) (s : Nat) (hl : l.length = s) (hs : 0 < s) (i : Nat) (hi : i < c * s) : (List.replicate c l).flatten[i]? = l[i % s]? := by
  have hj : i / s < c := Nat.div_lt_of_lt_mul (by rw [Nat.mul_comm]; exact hi)
  have hr : i % s < s := Nat.mod_lt _ hs
  have := flat_get (ls := List.replicate c l) (s := s) (fun l' hl' => by rw [(List.mem_replicate.1 hl').2]; exact hl) (i := i / s) (j := i % s) (l := l) (x := l[i % s]) (by simp [hj]) (by simp)
  rw [show i / s * s + i % s = i by rw [Nat.mul_comm]; exact Nat.div_add_mod i s] at this
  rw [this]; simp [hl, hr]
theorem run_make {t e : TypeId} {k k' : IntKind} {l c : Int} {z0 : Value} (hu : P.underlying t = some (.slice e)) (h0 : 0 ≤ l) (h1 : l ≤ c) (h2 : c ≤ 140737488355328) (h3 : c * P.bytesOf e ≤ 140737488355328) (h4 : 0 < P.cellsOf e)
    (hz : (zeroValue e).run P w = .ok z0 w) (hzs : z0.cells.size = P.cellsOf e) :
    (Instr.makeSlice t (.int k l) (.int k' c)).run P w = .ok (.slice (some ⟨w.heap.size, 0, none⟩) l.toNat c.toNat) (w.alloc (.cells ((Array.range (c.toNat * P.cellsOf e)).map (z0.cells[· % z0.cells.size]!)) e)) := by
  obtain ⟨inf, hi, hsz⟩ := info_of_cells h4
  have hby : P.bytesOf e = inf.bytes := by simp [Program.bytesOf, hi]
  have hcz : ((inf.bytes : Int) * c > 2 ^ 48) = False := by
    rw [hby, Int.mul_comm] at h3
    exact eq_false (Int.not_lt.2 (Int.le_trans h3 (by decide)))
  have e1 : (decide (IntKind.i64.wrap c < 0) || decide ((inf.bytes : Int) * IntKind.i64.wrap c > 2 ^ 48) || decide (IntKind.i64.wrap l < 0) || decide (IntKind.i64.wrap l > IntKind.i64.wrap c)) = false := by
    rw [wrap_i64 (by omega) h2, wrap_i64 h0 (by omega)]
    simp only [Bool.or_eq_false_iff, decide_eq_false_iff_not]
    exact ⟨⟨⟨by omega, of_eq_false hcz⟩, by omega⟩, by omega⟩
  simp only [Instr.makeSlice, Sem.run_bind, run_underlying hu, Result.andThen_ok, asInt, asIntOf, Sem.run_pure, typeInfo, run_program, hi]
  rw [e1]
  simp only [Bool.false_eq_true, if_false, Sem.run_bind, run_askRoom, Result.andThen_ok, run_sizeOf hi, wrap_i64 (show 0 ≤ c by omega) h2, wrap_i64 h0 (show l ≤ 140737488355328 by omega)]
  by_cases hn : c.toNat * P.cellsOf e = 0
  · simp [hn, newRow, show Array.range 0 = #[] from rfl]
  · simp only [hn, if_false, Sem.run_bind, hz, Result.andThen_ok, Sem.run_pure]
    simp [newRow]
theorem done_make (h : Rel N p ds G σ a w) (o : Oper) (t : TypeId) (x y : Operand) (ho : o.op = .makeSlice t x y) (hp : (opCore P E p σ.ev σ.M σ.K σ.cnt o.dst o.op).pre) : Done P N p ds G σ a w o (opCore P E p σ.ev σ.M σ.K σ.cnt o.dst o.op) := by
  rw [ho] at hp ⊢
  simp only [opCore, coreMake] at hp ⊢
  split at hp
  · rename_i e hu
    try simp only [hu]
    split at hp
    · rename_i k l k' c z hl hc hz
      have hx := h.eval x
      have hy := h.eval y
      rw [hl] at hx; rw [hc] at hy
      have ex := rep_int_inv hx
      have ey := rep_int_inv hy
      try simp only [hl, hc, hz]
      obtain ⟨z0, hz0, hrz, _⟩ := zval_some hz G w
      have hid : p <:+ nid σ.cnt p o.dst := Rel.pre_suffix _ _ _
      have hfr := h.fresh o.dst (nid σ.cnt p o.dst) (List.suffix_refl _)
      have hexec : ∀ v w', (Instr.makeSlice t (.int k l) (.int k' c)).run P w = .ok v w' → (execOp a.eval o).run P w = .ok (.value v) w' := fun v w' hr => by
        obtain ⟨dst, op, type, pos, after, guard⟩ := o
        simp only at ho; subst ho
        refine run_v ?_
        rw [ex, ey]; exact hr
      split at hp
      · obtain ⟨h1, h2, h3, h4, h5, h6, h7⟩ := hp
        subst h4
        have hzl : z0.cells.size = P.cellsOf e := by have := (rep_cells hrz h6).1; simp at this; omega
        have hrun := run_make (P := P) (w := w) (k := k) (k' := k') hu (Int.le_refl 0) h1 h2 h3 h5 hz0 hzl
        have hs := h.sim.alloc_row (K0 := σ.K) (fun _ h => h) hfr.2 ((Array.range (c.toNat * P.cellsOf e)).map (z0.cells[· % z0.cells.size]!)) e [] (fun i v hv => by simp at hv) c.toNat (P.cellsOf e) 0 (by simp) (Nat.zero_le _) (by simp)
        have ht := Tr.alloc_row (K0 := σ.K) h.sim (fun _ h => h) (p := nid σ.cnt p o.dst) (List.suffix_refl _) hfr.2 ((Array.range (c.toNat * P.cellsOf e)).map (z0.cells[· % z0.cells.size]!)) e [] c.toNat (P.cellsOf e) 0
        refine ⟨_, _, _, .inl (hexec _ _ hrun), ?_, ht.mono hid, h.next o.dst ht hs⟩
        exact .sl w.heap.size 0 c.toNat (P.cellsOf e) [] _ (fun _ _ => undef) (by simp) (by simp) (by omega) (fun i j el x h => by simp at h) (fun i j el x h => by simp at h) (by simp) (fun q s' e' => by cases e'; exact ⟨rfl, rfl, by simp [Ghost.addTok]⟩)
      · obtain ⟨h1, h2, h3, h4, h5, h6, h7⟩ := hp
        have hzl : z0.cells.size = P.cellsOf e := by have := (rep_cells hrz h6).1; simp at this; omega
        have hrun := run_make (P := P) (w := w) (k := k) (k' := k') hu h1 h2 h3 h4 h5 hz0 hzl
        have hrl : RepL G ((Array.range (c.toNat * P.cellsOf e)).map (z0.cells[· % z0.cells.size]!)).toList (List.replicate c.toNat z.cells).flatten := by
          have hzr := rep_cells hrz h6
          have hlf : (List.replicate c.toNat z.cells).flatten.length = c.toNat * P.cellsOf e := by
            rw [flat_len (s := P.cellsOf e) (fun l hl => by rw [(List.mem_replicate.1 hl).2]; exact h7)]; simp
          refine ⟨by simp [hlf], fun i v x hv hx => ?_⟩
          have hi : i < c.toNat * P.cellsOf e := by rw [← hlf]; exact (List.getElem?_eq_some_iff.1 hx).1
          rw [replicate_get _ _ _ h7 h5 i hi] at hx
          have hm : i % P.cellsOf e < z0.cells.size := by rw [hzl]; exact Nat.mod_lt _ h5
          have hv' : v = z0.cells[i % P.cellsOf e]'hm := by
            simp [hi, hzl, hm] at hv
            rw [← hv]; exact getElem!_pos z0.cells _ hm
          exact hzr.2 (i % P.cellsOf e) v x (by rw [hv']; simp [hm]) hx
        have hs := h.sim.alloc_box hfr.1 ((Array.range (c.toNat * P.cellsOf e)).map (z0.cells[· % z0.cells.size]!)) e _ hrl
        have ht := Tr.alloc_box h.sim (p := nid σ.cnt p o.dst) (List.suffix_refl _) hfr.1 ((Array.range (c.toNat * P.cellsOf e)).map (z0.cells[· % z0.cells.size]!)) e (List.replicate c.toNat z.cells).flatten
        exact ⟨_, _, _, .inl (hexec _ _ hrun), .ms _ 0 _ _ _ (by simp [Ghost.addGs]), ht.mono hid, h.next o.dst ht hs⟩
    · exact hp.elim
  · exact hp.elim
end
end
section
open Go

section
variable {P : Program} {E : Env} {N : Nat} {p : Path} {ds : List Deferred} {G : Ghost} {σ : St} {a : Act} {w : World}

theorem run_append_none (t ty e : TypeId) (ht : P.underlying t = some (.slice e)) (h4 : 0 < P.cellsOf e) (base A : Option Addr) (n c c2 : Nat) (hn : n ≤ c) (w : World) :
    (Builtin.append_ #[t, t] ty #[.slice base n c, .slice A 0 c2]).run P w = .ok (.slice base n c) w := by
  obtain ⟨i, hi, _⟩ := info_of_cells h4
  have hf : (Builtin.firstCells (P.cellsOf e) 0 (.slice A 0 c2)).run P w = .ok #[] w := by
    cases A with
    | none => rfl
    | some A => simp [Builtin.firstCells, loadCells, loadCellsFrom]
  cases base with
  | none => simp [Builtin.append_, run_underlying ht, run_sizeOf hi, Builtin.lenOf, hn, hf]
  | some b => simp [Builtin.append_, run_underlying ht, run_sizeOf hi, Builtin.lenOf, hn, hf, storeCells]
theorem run_append_room' (t ty e : TypeId) (i : TypeInfo) (ht : P.underlying t = some (.slice e)) (hi : P.info? e = some i)
    (g sLen sCap : Nat) (cur : Array Value) (T : TypeId) (w : World) (hg : w.heap[g]? = some (.cells cur T (0, 0)))
    (a : Addr) (m c : Nat) (news : List Value) (hl : news.length = m * i.size) (hnews : ∀ (j : Nat) u, news[j]? = some u → w.cell? (a.add j) = some u) (h1 : ∀ u ∈ news, u.oneCell' = true)
    (hroom : sLen + m ≤ sCap) (hfit : sLen * i.size + news.length ≤ cur.size) :
    (Builtin.append_ #[t, t] ty #[.slice (some ⟨g, 0, none⟩) sLen sCap, .slice (some a) m c]).run P w =
      .ok (.slice (some ⟨g, 0, none⟩) (sLen + m) sCap) (w.setRow g (cur.toList.take (sLen * i.size) ++ news ++ cur.toList.drop (sLen * i.size + news.length)).toArray) := by
  have hf := run_firstCells_some (P := P) w i.size m a m c news hl hnews
  have hst := run_storeCells_at P g (sLen * i.size) T news 0 cur w hg (by simpa using hfit) h1
  simp only [Nat.add_zero] at hst
  simp [Builtin.append_, run_underlying ht, sizeOf, typeInfo, hi, Builtin.lenOf, hroom, hf, Addr.add_lit, hst]

theorem elsOf_rep {v : Value} {x : V} (h : Rep G v x) (hs : (elsOf x).isSome = true) : ∃ A n c, v = .slice A n c ∧ n ≤ c := by
  cases h with
  | nils => exact ⟨none, 0, 0, rfl, Nat.le_refl _⟩
  | sl0 A c => exact ⟨A, 0, c, rfl, Nat.zero_le _⟩
  | sl b o c s els tk vs hs' hc hm => exact ⟨_, _, c, rfl, hc⟩
  | _ => simp [elsOf] at hs
theorem elsOf_nil {v : Value} {x : V} (h : Rep G v x) (hs : elsOf x = some []) : ∃ A c, v = .slice A 0 c := by
  cases h with
  | nils => exact ⟨none, 0, rfl⟩
  | sl0 A c => exact ⟨A, c, rfl⟩
  | sl b o c s els tk vs hs' hc hm => simp [elsOf] at hs; subst hs; exact ⟨_, c, rfl⟩
  | _ => simp [elsOf] at hs
/-- What is appended, in cells. -/
theorem news_of {v : Value} {x : V} {news : List (List V)} {s : Nat} (h : Rep G v x) (hs : Sim G σ.M σ.K w) (hx : elsOf x = some news) (hne : news ≠ []) (hall : news.all (fun el => el.length == s && el.all V.one) = true) :
    ∃ b o c, ∃ vs : List (List Value), v = .slice (some ⟨b, o, none⟩) news.length c ∧ vs.length = news.length ∧ (∀ (i : Nat) v el, vs[i]? = some v → news[i]? = some el → RepL G v el) ∧ (∀ l ∈ vs, l.length = s) ∧
      (∀ (j : Nat) u, vs.flatten[j]? = some u → w.cell? ((⟨b, o, none⟩ : Addr).add j) = some u) ∧ (∀ u ∈ vs.flatten, u.oneCell' = true) := by
  cases x <;> simp [elsOf] at hx
  · exact absurd hx hne
  · rename_i ns tk
    obtain rfl : ns = news := hx
    obtain ⟨b, o, c, rfl⟩ := rep_addr h hne
    obtain ⟨_, _, vs, h1, h2, h3⟩ := rep_lists h
    have hel : ∀ el ∈ ns, el.length = s ∧ ∀ y ∈ el, y.one = true := fun el hel => by
      have := List.all_eq_true.1 hall el hel
      simp only [Bool.and_eq_true, beq_iff_eq, List.all_eq_true] at this
      exact this
    have hm : ∀ l ∈ vs, ∃ el, el ∈ ns ∧ RepL G l el := fun l hl => by
      obtain ⟨i, hi⟩ := List.mem_iff_getElem?.1 hl
      have hlt : i < ns.length := by rw [← h1]; exact (List.getElem?_eq_some_iff.1 hi).1
      exact ⟨ns[i], by simp, h2 i l _ hi (by simp [hlt])⟩
    refine ⟨b, o, c, vs, rfl, h1, h2, fun l hl => ?_, fun j u hu => ?_, fun u hu => ?_⟩
    · obtain ⟨el, he, hr⟩ := hm l hl
      rw [hr.1]; exact (hel el he).1
    · rw [Addr.add_lit]; exact hs.fx _ _ _ (h3 j u hu)
    · obtain ⟨l, hl, hul⟩ := List.mem_flatten.1 hu
      obtain ⟨el, he, hr⟩ := hm l hl
      obtain ⟨i, hi⟩ := List.mem_iff_getElem?.1 hul
      obtain ⟨y, hy, hry⟩ := hr.get' hi
      exact one_cell hry ((hel el he).2 y (List.mem_of_getElem? hy))
theorem repLL_append {vs ws : List (List Value)} {es fs : List (List V)} (hl : vs.length = es.length) (h : ∀ (i : Nat) v el, vs[i]? = some v → es[i]? = some el → RepL G v el) (k : ∀ (i : Nat) v el, ws[i]? = some v → fs[i]? = some el → RepL G v el) :
    ∀ (i : Nat) v el, (vs ++ ws)[i]? = some v → (es ++ fs)[i]? = some el → RepL G v el := fun i v el hv he => by
  rw [List.getElem?_append] at hv he
  rw [hl] at hv
  split at hv
  · rename_i hi; rw [if_pos hi] at he; exact h i v el hv he
  · rename_i hi; rw [if_neg hi] at he; exact k _ v el hv he
theorem repLL_er {vs : List (List Value)} {es : List (List V)} (h : ∀ (i : Nat) v el, vs[i]? = some v → es[i]? = some el → RepL G v el) : ∀ (i : Nat) v el, vs[i]? = some v → (es.map (List.map V.er))[i]? = some el → RepL G v el := fun i v el hv he => by
  rw [List.getElem?_map] at he
  obtain ⟨y, hy, rfl⟩ := Option.map_eq_some_iff.1 he
  exact repL_er (h i v y hv hy)
theorem size_zeros (z : Array Value) (n : Nat) : (Builtin.zeroCells z n).size = n * z.size := by simp [Builtin.zeroCells]

/-- It grows into a new block. -/
theorem done_grow (h : Rel N p ds G σ a w) (o : Oper) (pre : Prop) (K0 : Toks) (hK : ∀ t, K0 t = true → σ.K t = true) {els news : List (List V)} {ovs nvs : List (List Value)} {s cap : Nat} {e : TypeId} {z : Array Value} (hz : z.size = s)
    (ho : ovs.length = els.length) (hos : ∀ l ∈ ovs, l.length = s) (hor : ∀ (i : Nat) v el, ovs[i]? = some v → els[i]? = some el → RepL G v el) (hes : ∀ el ∈ els, el.length = s)
    (hn : nvs.length = news.length) (hns : ∀ l ∈ nvs, l.length = s) (hnr : ∀ (i : Nat) v el, nvs[i]? = some v → news[i]? = some el → RepL G v el) (hes2 : ∀ el ∈ news, el.length = s) (hcap : els.length + news.length ≤ cap) (hmx : cap ≤ 9223372036854775807)
    (hex : (execOp a.eval o).run P w = .ok (.value (.slice (some ⟨w.heap.size, 0, none⟩) (els.length + news.length) cap)) (w.drew.alloc (.cells (ovs.flatten.toArray ++ nvs.flatten.toArray ++ Builtin.zeroCells z (cap - (els.length + news.length))) e))) :
    Done P N p ds G σ a w o (coreNew p pre o.dst (fun id => .sl (els ++ news.map (List.map V.er)) (.own id s)) none true σ.M K0 σ.cnt) := by
  have hfr := h.fresh o.dst (nid σ.cnt p o.dst) (List.suffix_refl _)
  have hid : p <:+ nid σ.cnt p o.dst := Rel.pre_suffix _ _ _
  have hlo : ovs.flatten.length = els.length * s := by rw [flat_len hos, ho]
  have hln : nvs.flatten.length = news.length * s := by rw [flat_len hns, hn]
  have hsz : (ovs.flatten.toArray ++ nvs.flatten.toArray ++ Builtin.zeroCells z (cap - (els.length + news.length))).size = cap * s := by
    simp only [Array.size_append, List.size_toArray, hlo, hln, size_zeros, hz, ← Nat.add_mul]
    congr 1; omega
  have hv : ∀ (i : Nat) v, (ovs ++ nvs).flatten[i]? = some v → (ovs.flatten.toArray ++ nvs.flatten.toArray ++ Builtin.zeroCells z (cap - (els.length + news.length)))[i]? = some v := fun i v hv => by
    rw [Array.getElem?_append_left]
    · rw [List.flatten_append] at hv; simpa using hv
    · have := (List.getElem?_eq_some_iff.1 hv).1
      rw [List.flatten_append, List.length_append] at this
      simpa using this
  have hd : Sim G σ.M σ.K w.drew := h.sim.drew
  have hs := hd.alloc_row hK hfr.2 (ovs.flatten.toArray ++ nvs.flatten.toArray ++ Builtin.zeroCells z (cap - (els.length + news.length))) e (ovs ++ nvs).flatten hv cap s (els.length + news.length) hsz hcap (by rw [List.flatten_append, List.length_append, hlo, hln, Nat.add_mul]; exact Nat.le_refl _)
  have ht := Tr.alloc_row hd hK (p := nid σ.cnt p o.dst) (List.suffix_refl _) hfr.2 (ovs.flatten.toArray ++ nvs.flatten.toArray ++ Builtin.zeroCells z (cap - (els.length + news.length))) e (ovs ++ nvs).flatten cap s (els.length + news.length)
  have htr := (Tr.drew (nid σ.cnt p o.dst) G σ.M σ.K w).trans ht
  refine ⟨_, _, _, .inl hex, ?_, htr.mono hid, h.next o.dst htr hs⟩
  have hle := htr.le
  have e1 : els.length + news.length = (els ++ news.map (List.map V.er)).length := by simp
  show Rep _ _ (.sl (els ++ news.map (List.map V.er)) (.own (nid σ.cnt p o.dst) s))
  rw [e1] at hle ⊢
  refine rep_slice (vs := ovs ++ nvs) (s := s) _ (by simp [ho, hn]) (fun el hel => ?_) ?_ (fun i v hv' => ?_) (by simpa using hcap) hmx (by simp) (fun q s' e' => by cases e'; exact ⟨rfl, rfl, by simp [Ghost.addTok, heap_drew]⟩)
  · rcases List.mem_append.1 hel with h | h
    · exact hes el h
    · obtain ⟨y, hy, rfl⟩ := List.mem_map.1 h; simpa using hes2 y hy
  · have := repLL_append ho hor (repLL_er hnr)
    exact fun i v el hv he => (this i v el hv he).mono hle
  · simp only [Ghost.addTok, Ghost.fix, heap_drew, if_true, Nat.zero_add]; exact hv'
/-- It fits into the row. -/
theorem done_room (h : Rel N p ds G σ a w) (o : Oper) (pre : Prop) {q : Path} (hk : σ.K q = true) {els news : List (List V)} {ovs nvs : List (List Value)} {s cap g : Nat} (ht : G.tl q = some (g, cap, s, els.length))
    {arr : Array Value} {T : TypeId} (hh : w.heap[g]? = some (.cells arr T (0, 0)))
    (ho : ovs.length = els.length) (hos : ∀ l ∈ ovs, l.length = s) (hor : ∀ (i : Nat) v el, ovs[i]? = some v → els[i]? = some el → RepL G v el) (hes : ∀ el ∈ els, el.length = s) (hofx : ∀ (i : Nat) v, ovs.flatten[i]? = some v → G.fx g i = some v)
    (hn : nvs.length = news.length) (hns : ∀ l ∈ nvs, l.length = s) (hnr : ∀ (i : Nat) v el, nvs[i]? = some v → news[i]? = some el → RepL G v el) (hes2 : ∀ el ∈ news, el.length = s) (hcap : els.length + news.length ≤ cap) (hmx : cap ≤ 9223372036854775807)
    (hex : (execOp a.eval o).run P w = .ok (.value (.slice (some ⟨g, 0, none⟩) (els.length + news.length) cap)) (w.setRow g (arr.toList.take (els.length * s) ++ nvs.flatten ++ arr.toList.drop (els.length * s + nvs.flatten.length)).toArray)) :
    Done P N p ds G σ a w o (coreNew p pre o.dst (fun id => .sl (els ++ news.map (List.map V.er)) (.own id s)) none true σ.M (upd σ.K q false) σ.cnt) := by
  have hfr := h.fresh o.dst (nid σ.cnt p o.dst) (List.suffix_refl _)
  have hid : p <:+ nid σ.cnt p o.dst := Rel.pre_suffix _ _ _
  have hln : nvs.flatten.length = news.length * s := by rw [flat_len hns, hn]
  have hlo : ovs.flatten.length = els.length * s := by rw [flat_len hos, ho]
  obtain ⟨hle, hs⟩ := h.sim.grow_row (t' := nid σ.cnt p o.dst) hk ht hfr.2 hh nvs.flatten news.length hln hcap
  have htr := Tr.grow_row (K := σ.K) (M := σ.M) (w := w) (p := nid σ.cnt p o.dst) (List.suffix_refl _) hk ht nvs.flatten news.length hle (arr.toList.take (els.length * s) ++ nvs.flatten ++ arr.toList.drop (els.length * s + nvs.flatten.length)).toArray
  refine ⟨_, _, _, .inl hex, ?_, htr.mono hid, h.next o.dst htr hs⟩
  have e1 : els.length + news.length = (els ++ news.map (List.map V.er)).length := by simp
  show Rep _ _ (.sl (els ++ news.map (List.map V.er)) (.own (nid σ.cnt p o.dst) s))
  rw [e1] at hle ⊢
  refine rep_slice (vs := ovs ++ nvs) (s := s) _ (by simp [ho, hn]) (fun el hel => ?_) ?_ (fun i v hv' => ?_) (by simpa using hcap) hmx (by simp) (fun q s' e' => by cases e'; exact ⟨rfl, rfl, by simp [Ghost.addTok]⟩)
  · rcases List.mem_append.1 hel with h | h
    · exact hes el h
    · obtain ⟨y, hy, rfl⟩ := List.mem_map.1 h; simpa using hes2 y hy
  · have := repLL_append ho hor (repLL_er hnr)
    exact fun i v el hv he => (this i v el hv he).mono hle
  · rw [List.flatten_append, List.getElem?_append] at hv'
    simp only [Nat.zero_add]
    split at hv'
    · exact hle.fx _ _ _ (hofx i v hv')
    · rename_i hi
      simp only [Ghost.addTok, Ghost.grow, true_and]
      have hlt := (List.getElem?_eq_some_iff.1 hv').1
      rw [if_pos (by omega), ← hlo]
      exact hv'

theorem done_append (h : Rel N p ds G σ a w) (o : Oper) (ts : Array TypeId) (s x : Operand) (ho : o.op = .call { callee := .builtin .append, args := #[s, x], argTypes := ts })
    (hp : (coreAppend P p ts (σ.ev s) (σ.ev x) o.dst σ.M σ.K σ.cnt).pre) : Done P N p ds G σ a w o (coreAppend P p ts (σ.ev s) (σ.ev x) o.dst σ.M σ.K σ.cnt) := by
  have hs := h.eval s
  have hx := h.eval x
  generalize σ.ev s = S at *
  generalize σ.ev x = X at *
  generalize has : a.eval s = sv at *
  generalize hax : a.eval x = xv at *
  have hexec : ∀ t v w', ts = #[t, t] → (Builtin.append_ #[t, t] o.type #[sv, xv]).run P w = .ok v w' → (execOp a.eval o).run P w = .ok (.value v) w' := fun t v w' hts hr => by
    obtain ⟨dst, op, type, pos, after, guard⟩ := o
    simp only at ho; subst ho; subst hts
    simp only [execOp, resolve, invoke, builtin, Sem.run_bind, Sem.run_pure, Result.andThen_ok, List.map_toArray, List.map_cons, List.map_nil, has, hax, hr]
  unfold coreAppend at hp ⊢
  split at hp
  · rename_i t t' hts
    have hts' : ∀ {u}, t' = u → t = u → ts = #[u, u] := fun e1 e2 => by subst e1; subst e2; exact Array.ext' (by simpa using hts)
    try simp only [hts]
    split at hp
    · rename_i e news hu hels
      try simp only [hu, hels]
      split at hp
      · rename_i z hz
        try simp only [hz]
        split at hp
        · obtain ⟨rfl, h1, h2⟩ := hp
          obtain ⟨A, n, c, rfl, hn⟩ := elsOf_rep hs h1
          obtain ⟨A2, c2, rfl⟩ := elsOf_nil hx hels
          exact ⟨_, w, G, .inl (hexec _ _ _ (hts' rfl rfl) (run_append_none _ o.type e hu h2 A A2 n c c2 hn w)), hs, .refl _ _ _ _ _, h⟩
        · rename_i hne
          have hne' : news ≠ [] := fun e => hne e
          have h0 : 0 < news.length := List.length_pos_iff.2 hne'
          cases S with
          | nils =>
            simp only at hp ⊢
            obtain ⟨rfl, h2, h3, h4, h5, h6, h7⟩ := hp
            obtain ⟨inf, hi, hsz⟩ := info_of_cells h2
            have hby : P.bytesOf e = inf.bytes := by simp [Program.bytesOf, hi]
            obtain ⟨z0, hz0⟩ : ∃ z0, inf.zero = some z0 ∧ z = ofVal z0 := by
              unfold zval at hz; rw [hi] at hz; simp at hz; obtain ⟨z0, h1, h2⟩ := hz; exact ⟨z0, h1, h2.symm⟩
            have hzl : z0.cells.size = P.cellsOf e := by
              have hr := rep_ofVal G z0; rw [← hz0.2] at hr
              have := (rep_cells hr h4).1; simp at this; omega
            obtain ⟨b, oo, c, nvs, rfl, hn1, hn2, hn3, hn4, hn5⟩ := news_of hx h.sim hels hne' h6
            cases hs
            have hl : nvs.flatten.length = news.length * inf.size := by rw [flat_len hn3, hn1, hsz]
            have hrun := run_append_nil (P := P) w t' o.type e inf z0 hu hi hz0.1 ⟨b, oo, none⟩ news.length c nvs.flatten hl hn4 h0 (by
              have : news.length * 1 ≤ news.length * P.bytesOf e := Nat.mul_le_mul_left _ h3
              omega) (by rw [← hby]; omega)
            have hel : ∀ el ∈ news, el.length = P.cellsOf e := fun el hel => by
              have := List.all_eq_true.1 h6 el hel; simp only [Bool.and_eq_true, beq_iff_eq] at this; exact this.1
            have hgm : grownCap w news.length 0 e ≤ 9223372036854775807 := grownCap_le_maxLen w _ _ e (by
              have : news.length * 1 ≤ news.length * P.bytesOf e := Nat.mul_le_mul_left _ h3
              unfold maxLen; omega)
            have := done_grow (P := P) h o (t' = t' ∧ 0 < P.cellsOf e ∧ 0 < P.bytesOf e ∧ z.isJunk = false ∧ z.cells.length = P.cellsOf e ∧ news.all (fun el => el.length == P.cellsOf e && el.all V.one) = true ∧ news.length * P.bytesOf e ≤ 140737488355328) σ.K (fun _ h => h) (els := []) (ovs := []) (e := e) hzl rfl (by simp) (by simp) (by simp) hn1 hn3 hn2 hel (by simpa using grownCap_ge w news.length 0 e) (by simpa using hgm) (by
              have := hexec t' _ _ (hts' rfl rfl) hrun
              simpa using this)
            simpa using this
          | sl els tk =>
            cases tk with
            | no => simp only at hp; exact hp.elim
            | ex =>
              simp only at hp ⊢
              obtain ⟨rfl, h2, h3, h4, h5, h6, h7, h8⟩ := hp
              obtain ⟨inf, hi, hsz⟩ := info_of_cells h2
              have hby : P.bytesOf e = inf.bytes := by simp [Program.bytesOf, hi]
              obtain ⟨z0, hz0⟩ : ∃ z0, inf.zero = some z0 ∧ z = ofVal z0 := by
                unfold zval at hz; rw [hi] at hz; simp at hz; obtain ⟨z0, h1, h2⟩ := hz; exact ⟨z0, h1, h2.symm⟩
              have hzl : z0.cells.size = P.cellsOf e := by
                have hr := rep_ofVal G z0; rw [← hz0.2] at hr
                have := (rep_cells hr h4).1; simp at this; omega
              obtain ⟨b, oo, c, nvs, rfl, hn1, hn2, hn3, hn4, hn5⟩ := news_of hx h.sim hels hne' h6
              obtain ⟨b1, o1, rfl⟩ := rep_ex hs
              obtain ⟨_, _, ovs, ho1, ho2, ho3⟩ := rep_lists hs
              have hos : ∀ l ∈ ovs, l.length = P.cellsOf e := fun l hl => by
                obtain ⟨i, hi⟩ := List.mem_iff_getElem?.1 hl
                have hlt : i < els.length := by rw [← ho1]; exact (List.getElem?_eq_some_iff.1 hi).1
                rw [(ho2 i l els[i] hi (by simp [hlt])).1]; exact h7 _ (by simp)
              have hl : nvs.flatten.length = news.length * inf.size := by rw [flat_len hn3, hn1, hsz]
              have hlo : ovs.flatten.length = els.length * inf.size := by rw [flat_len hos, ho1, hsz]
              have hbig : (els.length + news.length) * 1 ≤ (els.length + news.length) * P.bytesOf e := Nat.mul_le_mul_left _ h3
              have hrun := run_append_grow (P := P) w t' o.type e inf z0 hu hi hz0.1 ⟨b1, o1, none⟩ els.length els.length ovs.flatten hlo (fun j u hu => by rw [Addr.add_lit]; exact h.sim.fx _ _ _ (ho3 j u hu)) ⟨b, oo, none⟩ news.length c nvs.flatten hl hn4
                (by omega) (by omega) (growslice_fits (by omega) (by rw [← hby]; exact h8))
              have hel : ∀ el ∈ news, el.length = P.cellsOf e := fun el hel => by
                have := List.all_eq_true.1 h6 el hel; simp only [Bool.and_eq_true, beq_iff_eq] at this; exact this.1
              exact done_grow (P := P) h o _ σ.K (fun _ h => h) (e := e) hzl ho1 hos ho2 h7 hn1 hn3 hn2 hel (grownCap_ge w _ _ e) (grownCap_le_maxLen w _ _ e (by unfold maxLen; omega)) (hexec t' _ _ (hts' rfl rfl) hrun)
            | own q s =>
              simp only at hp ⊢
              obtain ⟨hk, rfl, rfl, h2, h3, h4, h5, h6, h7, h8⟩ := hp
              obtain ⟨inf, hi, hsz⟩ := info_of_cells h2
              have hby : P.bytesOf e = inf.bytes := by simp [Program.bytesOf, hi]
              obtain ⟨z0, hz0⟩ : ∃ z0, inf.zero = some z0 ∧ z = ofVal z0 := by
                unfold zval at hz; rw [hi] at hz; simp at hz; obtain ⟨z0, h1, h2⟩ := hz; exact ⟨z0, h1, h2.symm⟩
              have hzl : z0.cells.size = P.cellsOf e := by
                have hr := rep_ofVal G z0; rw [← hz0.2] at hr
                have := (rep_cells hr h4).1; simp at this; omega
              obtain ⟨b, oo, c, nvs, rfl, hn1, hn2, hn3, hn4, hn5⟩ := news_of hx h.sim hels hne' h6
              obtain ⟨g, cap, rfl, hcl, hmx, htl⟩ := rep_own hs
              obtain ⟨_, _, ovs, ho1, ho2, ho3⟩ := rep_lists hs
              simp only [Nat.zero_add] at ho3
              have hos : ∀ l ∈ ovs, l.length = P.cellsOf e := fun l hl => by
                obtain ⟨i, hi⟩ := List.mem_iff_getElem?.1 hl
                have hlt : i < els.length := by rw [← ho1]; exact (List.getElem?_eq_some_iff.1 hi).1
                rw [(ho2 i l els[i] hi (by simp [hlt])).1]; exact h7 _ (by simp)
              have hl : nvs.flatten.length = news.length * inf.size := by rw [flat_len hn3, hn1, hsz]
              have hlo : ovs.flatten.length = els.length * inf.size := by rw [flat_len hos, ho1, hsz]
              have hbig : (els.length + news.length) * 1 ≤ (els.length + news.length) * P.bytesOf e := Nat.mul_le_mul_left _ h3
              have hel : ∀ el ∈ news, el.length = P.cellsOf e := fun el hel => by
                have := List.all_eq_true.1 h6 el hel; simp only [Bool.and_eq_true, beq_iff_eq] at this; exact this.1
              by_cases hroom : els.length + news.length ≤ cap
              · obtain ⟨g', cap', s', n', arr, T, ht', hh, ha, hn', hx', hb'⟩ := h.sim.tok q hk
                rw [htl] at ht'; cases ht'
                have hfit : els.length * inf.size + nvs.flatten.length ≤ arr.size := by
                  rw [hl, ha, hsz, ← Nat.add_mul]; exact Nat.mul_le_mul_right _ hroom
                have hrun := run_append_room' (P := P) t' o.type e inf hu hi g els.length cap arr T w hh ⟨b, oo, none⟩ news.length c nvs.flatten hl hn4 hn5 hroom hfit
                rw [hsz] at hrun
                exact done_room (P := P) h o _ hk htl hh ho1 hos ho2 h7 ho3 hn1 hn3 hn2 hel hroom hmx (hexec t' _ _ (hts' rfl rfl) hrun)
              · have hrun := run_append_grow (P := P) w t' o.type e inf z0 hu hi hz0.1 ⟨g, 0, none⟩ els.length cap ovs.flatten hlo (fun j u hu => by rw [Addr.add_lit, Nat.zero_add]; exact h.sim.fx _ _ _ (ho3 j u hu)) ⟨b, oo, none⟩ news.length c nvs.flatten hl hn4
                  (by omega) (by omega) (growslice_fits (by omega) (by rw [← hby]; exact h8))
                exact done_grow (P := P) h o _ (upd σ.K q false) (fun t ht => by
                  by_cases e : t = q
                  · subst e; exact hk
                  · rwa [upd_ne _ _ e] at ht) (e := e) hzl ho1 hos ho2 h7 hn1 hn3 hn2 hel (grownCap_ge w _ _ e) (grownCap_le_maxLen w _ _ e (by unfold maxLen; omega)) (hexec t' _ _ (hts' rfl rfl) hrun)
          | _ => simp only at hp; exact hp.elim
      · exact hp.elim
    · exact hp.elim
  · exact hp.elim

/-! ### Rows in boxes -/
theorem Sim.rebox {M : Mem} {K : Toks} (h : Sim G M K w) {id id' : Path} {bx : Box} (hm : M id = some bx) {b : Nat} (hl : G.loc id = some b) (hf : G.loc id' = none) :
    Sim (G.addGs id' b (G.gw id)) (upd (upd M id none) id' (some bx)) K w := by
  have hle := Ghost.addGs_le hf b (G.gw id)
  have hmn : M id ≠ none := by rw [hm]; simp
  have hii : id ≠ id' := fun e => by subst e; rw [hl] at hf; cases hf
  have key : ∀ q c, upd (upd M id none) id' (some bx) q ≠ none → (G.addGs id' b (G.gw id)).loc q = some c → (q = id' ∧ c = b) ∨ (q ≠ id' ∧ q ≠ id ∧ M q ≠ none ∧ G.loc q = some c) := fun q c hq hc => by
    by_cases e : q = id'
    · subst e; simp [Ghost.addGs] at hc; exact .inl ⟨rfl, hc.symm⟩
    · rw [upd_ne _ _ e] at hq; simp [Ghost.addGs, e] at hc
      by_cases e2 : q = id
      · subst e2; rw [upd_same] at hq; exact absurd rfl hq
      · rw [upd_ne _ _ e2] at hq; exact .inr ⟨e, e2, hq, hc⟩
  refine ⟨h.fx, fun q cs hq => ?_, fun q es hq => ?_, fun q q' c hq hq' h1 h2 => ?_, fun t hk => ?_, h.tinj, h.tb⟩
  · by_cases e : q = id'
    · subst e; rw [upd_same] at hq; cases hq
      obtain ⟨b1, arr, T, hl1, hh, hr, hf1, hg1⟩ := h.box id cs hm
      rw [hl] at hl1; cases hl1
      exact ⟨b, arr, T, by simp [Ghost.addGs], hh, hr.mono hle, hf1, fun c s hg => hg1 c s (by simpa [Ghost.addGs] using hg)⟩
    · rw [upd_ne _ _ e] at hq
      by_cases e2 : q = id
      · subst e2; rw [upd_same] at hq; cases hq
      · rw [upd_ne _ _ e2] at hq
        obtain ⟨b1, arr, T, hl1, hh, hr⟩ := h.box q cs hq
        exact ⟨b1, arr, T, by simp [Ghost.addGs, e, hl1], hh, hr.mono hle hl1 fun _ => rfl⟩
  · by_cases e : q = id'
    · subst e; rw [upd_same] at hq; cases hq; exact h.mp id es hm
    · rw [upd_ne _ _ e] at hq
      by_cases e2 : q = id
      · subst e2; rw [upd_same] at hq; cases hq
      · rw [upd_ne _ _ e2] at hq; exact h.mp q es hq
  · rcases key q c hq h1 with ⟨e, ec⟩ | ⟨e, e2, hq1, hc1⟩ <;> rcases key q' c hq' h2 with ⟨e', ec'⟩ | ⟨e', e2', hq2, hc2⟩
    · rw [e, e']
    · subst ec; exact absurd (h.inj q' id c hq2 hmn hc2 hl) e2'
    · subst ec'; exact absurd (h.inj q id c hq1 hmn hc1 hl) e2
    · exact h.inj q q' c hq1 hq2 hc1 hc2
  · obtain ⟨g, cap, s, n, arr, T, ht, hh, ha, hn, hx, hb⟩ := h.tok t hk
    refine ⟨g, cap, s, n, arr, T, ht, hh, ha, hn, hx, fun q hq hc => ?_⟩
    rcases key q g hq hc with ⟨e, ec⟩ | ⟨e, e2, hq1, hc1⟩
    · subst ec; exact hb id hmn hl
    · exact hb q hq1 hc1
theorem Tr.rebox {M : Mem} {K : Toks} (w : World) {id id' : Path} {bx : Box} (hm : M id = some bx) {b : Nat} (hl : G.loc id = some b) (hf : G.loc id' = none) :
    Tr id' G M K w (G.addGs id' b (G.gw id)) (upd (upd M id none) id' (some bx)) K w := by
  refine ⟨Ghost.addGs_le hf _ _, fun q hq => ⟨by simp only [Ghost.addGs]; rw [if_neg (show ¬ q = _ from fun e => hq (by rw [e]; exact List.suffix_refl _))], rfl⟩, rfl, rfl, rfl, Nat.le_refl _, fun _ _ _ => rfl, fun c hc hw => ?_, fun _ _ _ _ => rfl⟩
  rcases hw with ⟨q, hq, hl'⟩ | ⟨t, x, hk, ht⟩
  · by_cases e : q = id'
    · subst e; simp [Ghost.addGs] at hl'; subst hl'; exact .inl ⟨id, by rw [hm]; simp, hl⟩
    · rw [upd_ne _ _ e] at hq; simp [Ghost.addGs, e] at hl'
      by_cases e2 : q = id
      · subst e2; rw [upd_same] at hq; exact absurd rfl hq
      · rw [upd_ne _ _ e2] at hq; exact .inl ⟨q, hq, hl'⟩
  · exact .inr ⟨t, x, hk, ht⟩
theorem done_gsNew (h : Rel N p ds G σ a w) (o : Oper) (pre : Prop) {cs : List V} {arr : Array Value} {cap s len : Nat} {e : TypeId} (hr : RepL G (arr.toList.take cs.length) cs) (hsz : arr.size = cap * s) (hc : len ≤ cap) (hmx : cap ≤ 9223372036854775807)
    (M0 : Mem) (hM0 : ∀ id, M0 id ≠ none → M0 id = σ.M id) (hex : (execOp a.eval o).run P w = .ok (.value (.slice (some ⟨w.heap.size, 0, none⟩) len cap)) (w.drew.alloc (.cells arr e))) :
    Done P N p ds G σ a w o ⟨pre, .gs (nid σ.cnt p o.dst) len s, upd M0 (nid σ.cnt p o.dst) (some (.cells cs)), σ.K, bump σ.cnt o.dst⟩ := by
  have hfr := h.fresh o.dst (nid σ.cnt p o.dst) (List.suffix_refl _)
  have hid : p <:+ nid σ.cnt p o.dst := Rel.pre_suffix _ _ _
  have hd : Sim G M0 σ.K w.drew := h.sim.drew.forget hM0 fun _ h => h
  have hs := hd.alloc_gs hfr.1 arr e cs hr (some (cap, s)) (fun c s' e => by cases e; exact hsz)
  have ht := Tr.alloc_gs hd (p := nid σ.cnt p o.dst) (List.suffix_refl _) hfr.1 arr e cs (some (cap, s))
  have htr := ((Tr.drew (nid σ.cnt p o.dst) G σ.M σ.K w).trans (Tr.forget _ w.drew hM0 fun _ h => h)).trans ht
  exact ⟨_, _, _, .inl hex, .gs _ len s cap _ (by simp [Ghost.addGs, heap_drew]) (by simp [Ghost.addGs]) hc hmx, htr.mono hid, h.next o.dst htr hs⟩
theorem done_gsRoom (h : Rel N p ds G σ a w) (o : Oper) (pre : Prop) {id : Path} {cs xs : List V} {nvs : List Value} {len m s cap b : Nat} (hm : σ.M id = some (.cells cs)) (hl : G.loc id = some b) (hg : G.gw id = some (cap, s))
    {arr : Array Value} {T : TypeId} (hh : w.heap[b]? = some (.cells arr T (0, 0))) (hba : BoxAt G id b arr cs) (hcs : cs.length = len * s) (hn : RepL G nvs xs) (hln : nvs.length = m * s) (hcap : len + m ≤ cap) (hmx : cap ≤ 9223372036854775807)
    (hex : (execOp a.eval o).run P w = .ok (.value (.slice (some ⟨b, 0, none⟩) (len + m) cap)) (w.setRow b (arr.toList.take (len * s) ++ nvs ++ arr.toList.drop (len * s + nvs.length)).toArray)) :
    Done P N p ds G σ a w o ⟨pre, .gs (nid σ.cnt p o.dst) (len + m) s, upd (upd σ.M id none) (nid σ.cnt p o.dst) (some (.cells (cs ++ xs))), σ.K, bump σ.cnt o.dst⟩ := by
  have hfr := h.fresh o.dst (nid σ.cnt p o.dst) (List.suffix_refl _)
  have hid : p <:+ nid σ.cnt p o.dst := Rel.pre_suffix _ _ _
  have hsz : arr.size = cap * s := hba.2.2 cap s hg
  have hle : (len + m) * s ≤ cap * s := Nat.mul_le_mul_right _ hcap
  rw [Nat.add_mul] at hle
  have hr := hba.1
  rw [hcs] at hr
  have hpre : RepL G ((arr.toList.take (len * s) ++ nvs ++ arr.toList.drop (len * s + nvs.length)).toArray.toList.take (cs ++ xs).length) (cs ++ xs) := by
    have e : (arr.toList.take (len * s) ++ nvs ++ arr.toList.drop (len * s + nvs.length)).toArray.toList.take (cs ++ xs).length = arr.toList.take (len * s) ++ nvs := by
      rw [show (cs ++ xs).length = (arr.toList.take (len * s) ++ nvs).length by
        simp only [List.length_append, List.length_take, Array.length_toList, hcs, hn.1]; omega]
      exact List.take_left
    rw [e]
    exact hr.append hn
  have hsz2 : (arr.toList.take (len * s) ++ nvs ++ arr.toList.drop (len * s + nvs.length)).toArray.size = arr.size := by
    simp only [List.size_toArray, List.length_append, List.length_take, List.length_drop, Array.length_toList]; omega
  have hs := (h.sim.store hm hl hh _ (cs ++ xs) hpre hsz2).rebox (upd_same _ _ _) hl hfr.1
  have ht := (Tr.store (K := σ.K) (w := w) (nid σ.cnt p o.dst) hm hl (arr.toList.take (len * s) ++ nvs ++ arr.toList.drop (len * s + nvs.length)).toArray (cs ++ xs)).trans (Tr.rebox _ (upd_same _ _ _) hl hfr.1)
  have eM : upd (upd (upd σ.M id (some (.cells (cs ++ xs)))) id none) (nid σ.cnt p o.dst) (some (.cells (cs ++ xs))) = upd (upd σ.M id none) (nid σ.cnt p o.dst) (some (.cells (cs ++ xs))) := by
    funext q; simp only [upd]
    by_cases e1 : q = nid σ.cnt p o.dst
    · simp [e1]
    · by_cases e2 : q = id
      · simp [e1, e2]
      · simp [e1, e2]
  rw [eM] at hs ht
  exact ⟨_, _, _, .inl hex, .gs _ _ s cap _ (by simp [Ghost.addGs]) (by simp [Ghost.addGs, hg]) hcap hmx, ht.mono hid, h.next o.dst ht hs⟩
theorem repL_flatten {vs : List (List Value)} {es : List (List V)} (hl : vs.length = es.length) (h : ∀ (i : Nat) v el, vs[i]? = some v → es[i]? = some el → RepL G v el) : RepL G vs.flatten es.flatten := by
  induction vs generalizing es with
  | nil => cases es with
    | nil => exact .nil G
    | cons e es => simp at hl
  | cons v vs ih =>
    cases es with
    | nil => simp at hl
    | cons e es =>
      rw [List.flatten_cons, List.flatten_cons]
      exact (h 0 v e rfl rfl).append (ih (by simpa using hl) fun i v el h1 h2 => h (i + 1) v el (by simpa using h1) (by simpa using h2))
theorem done_gs (h : Rel N p ds G σ a w) (o : Oper) (ts : Array TypeId) (s x : Operand) (ho : o.op = .call { callee := .builtin .append, args := #[s, x], argTypes := ts })
    (hp : (coreGrow P p ts (σ.ev s) (σ.ev x) o.dst σ.M σ.K σ.cnt).pre) : Done P N p ds G σ a w o (coreGrow P p ts (σ.ev s) (σ.ev x) o.dst σ.M σ.K σ.cnt) := by
  have hs := h.eval s
  have hx := h.eval x
  generalize σ.ev s = S at *
  generalize σ.ev x = X at *
  generalize has : a.eval s = sv at *
  generalize hax : a.eval x = xv at *
  have hexec : ∀ t v w', ts = #[t, t] → (Builtin.append_ #[t, t] o.type #[sv, xv]).run P w = .ok v w' → (execOp a.eval o).run P w = .ok (.value v) w' := fun t v w' hts hr => by
    obtain ⟨dst, op, type, pos, after, guard⟩ := o
    simp only at ho; subst ho; subst hts
    simp only [execOp, resolve, invoke, builtin, Sem.run_bind, Sem.run_pure, Result.andThen_ok, List.map_toArray, List.map_cons, List.map_nil, has, hax, hr]
  unfold coreGrow at hp ⊢
  split at hp
  · rename_i t t' hts
    have hts' : ∀ {u}, t' = u → t = u → ts = #[u, u] := fun e1 e2 => by subst e1; subst e2; exact Array.ext' (by simpa using hts)
    try simp only [hts]
    split at hp
    · rename_i e news hu hels
      try simp only [hu, hels]
      split at hp
      · rename_i z hz
        try simp only [hz]
        have zero : 0 < P.cellsOf e → z.isJunk = false → z.cells.length = P.cellsOf e → ∃ inf z0, P.info? e = some inf ∧ inf.size = P.cellsOf e ∧ inf.zero = some z0 ∧ z0.cells.size = P.cellsOf e ∧ P.bytesOf e = inf.bytes := fun h2 h4 h5 => by
          obtain ⟨inf, hi, hsz⟩ := info_of_cells h2
          obtain ⟨z0, hz0⟩ : ∃ z0, inf.zero = some z0 ∧ z = ofVal z0 := by
            unfold zval at hz; rw [hi] at hz; simp at hz; obtain ⟨z0, h1, h2⟩ := hz; exact ⟨z0, h1, h2.symm⟩
          refine ⟨inf, z0, hi, hsz, hz0.1, ?_, by simp [Program.bytesOf, hi]⟩
          have hr := rep_ofVal G z0; rw [← hz0.2] at hr
          have := (rep_cells hr h4).1; simp at this; omega
        have fresh : ∀ (pre : Prop) (b0 : Option Addr), sv = .slice b0 0 0 → (news ≠ [] ∧ t' = t ∧ 0 < P.cellsOf e ∧ 0 < P.bytesOf e ∧ z.isJunk = false ∧ z.cells.length = P.cellsOf e ∧ news.all (fun el => el.length == P.cellsOf e && el.all V.one) = true ∧ news.length * P.bytesOf e ≤ 140737488355328) →
            (b0 = none ∨ ∃ b1, b0 = some b1) → Done P N p ds G σ a w o (coreNew p pre o.dst (fun id => .gs id news.length (P.cellsOf e)) (some (.cells (news.map (List.map V.er)).flatten)) false σ.M σ.K σ.cnt) := fun pre b0 hsv hp hb0 => by
          obtain ⟨hne', rfl, h2, h3, h4, h5, h6, h7⟩ := hp
          have h0 : 0 < news.length := List.length_pos_iff.2 hne'
          obtain ⟨inf, z0, hi, hsz, hz0, hzl, hby⟩ := zero h2 h4 h5
          obtain ⟨b, oo, c, nvs, rfl, hn1, hn2, hn3, hn4, hn5⟩ := news_of hx h.sim hels hne' h6
          have hl : nvs.flatten.length = news.length * inf.size := by rw [flat_len hn3, hn1, hsz]
          have hbig : news.length * 1 ≤ news.length * P.bytesOf e := Nat.mul_le_mul_left _ h3
          have hgm : grownCap w news.length 0 e ≤ 9223372036854775807 := grownCap_le_maxLen w _ _ e (by unfold maxLen; omega)
          have hge := grownCap_ge w news.length 0 e
          have hrep : RepL G nvs.flatten (news.map (List.map V.er)).flatten := repL_flatten (by simpa using hn1) (repLL_er hn2)
          have hsize : (nvs.flatten.toArray ++ Builtin.zeroCells z0.cells (grownCap w news.length 0 e - news.length)).size = grownCap w news.length 0 e * P.cellsOf e := by
            simp only [Array.size_append, List.size_toArray, hl, size_zeros, hzl, hsz, ← Nat.add_mul]
            congr 1; omega
          have hr2 : RepL G ((nvs.flatten.toArray ++ Builtin.zeroCells z0.cells (grownCap w news.length 0 e - news.length)).toList.take (news.map (List.map V.er)).flatten.length) (news.map (List.map V.er)).flatten := by
            rw [← hrep.1]
            simpa using hrep
          have := done_gsNew (P := P) h o pre hr2 hsize (len := news.length) (by simpa using hge) hgm σ.M (fun _ _ => rfl) (e := e) (by
            refine hexec t' _ _ (hts' rfl rfl) ?_
            rcases hb0 with rfl | ⟨b1, rfl⟩
            · subst hsv
              have hrun := run_append_nil (P := P) w t' o.type e inf z0 hu hi hz0 ⟨b, oo, none⟩ news.length c nvs.flatten hl hn4 h0 (by omega) (by rw [← hby]; omega)
              simpa using hrun
            · subst hsv
              have hrun := run_append_grow (P := P) w t' o.type e inf z0 hu hi hz0 b1 0 0 [] (by simp) (fun j u hu => by simp at hu) ⟨b, oo, none⟩ news.length c nvs.flatten hl hn4
                (by omega) (by omega) (growslice_fits (by omega) (by rw [← hby, Nat.zero_add]; exact h7))
              simpa using hrun)
          simpa [coreNew] using this
        cases S with
        | gs id len sz =>
          simp only at hp ⊢
          split at hp
          · rename_i cs hm
            try simp only [hm]
            obtain ⟨hne', rfl, rfl, h2, h3, h4, h5, h6, hcs, h7⟩ := hp
            have h0 : 0 < news.length := List.length_pos_iff.2 hne'
            obtain ⟨inf, z0, hi, hsz, hz0, hzl, hby⟩ := zero h2 h4 h5
            obtain ⟨b, oo, c, nvs, rfl, hn1, hn2, hn3, hn4, hn5⟩ := news_of hx h.sim hels hne' h6
            have hl : nvs.flatten.length = news.length * inf.size := by rw [flat_len hn3, hn1, hsz]
            have hbig : (len + news.length) * 1 ≤ (len + news.length) * P.bytesOf e := Nat.mul_le_mul_left _ h3
            have hrep : RepL G nvs.flatten (news.map (List.map V.er)).flatten := repL_flatten (by simpa using hn1) (repLL_er hn2)
            cases hs with
            | gs _ _ _ cap b1 hl1 hg hlc hmx =>
              obtain ⟨b2, arr, T, hl2, hh, hba⟩ := h.sim.box id cs hm
              rw [hl1] at hl2; cases hl2
              have harr := hba.2.2 cap _ hg
              have hcsz := hba.size
              by_cases hroom : len + news.length ≤ cap
              · have hfit : len * inf.size + nvs.flatten.length ≤ arr.size := by
                  rw [hl, harr, hsz, ← Nat.add_mul]; exact Nat.mul_le_mul_right _ hroom
                have hrun := run_append_room' (P := P) t' o.type e inf hu hi b1 len cap arr T w hh ⟨b, oo, none⟩ news.length c nvs.flatten hl hn4 hn5 hroom hfit
                rw [hsz] at hrun
                exact done_gsRoom (P := P) h o _ hm hl1 hg hh hba hcs hrep (by rw [hl, hsz]) hroom hmx (hexec t' _ _ (hts' rfl rfl) hrun)
              · have hr := hba.1
                rw [hcs] at hr hcsz
                have hlo : (arr.toList.take (len * P.cellsOf e)).length = len * inf.size := by
                  rw [List.length_take, Array.length_toList, hsz]; omega
                have hrun := run_append_grow (P := P) w t' o.type e inf z0 hu hi hz0 ⟨b1, 0, none⟩ len cap (arr.toList.take (len * P.cellsOf e)) hlo (fun j u hu => by
                    rw [Addr.add_lit, Nat.zero_add, cell_of_heap hh]
                    rw [List.getElem?_take] at hu
                    split at hu
                    · simpa using hu
                    · cases hu) ⟨b, oo, none⟩ news.length c nvs.flatten hl hn4
                  (by omega) (by omega) (growslice_fits (by omega) (by rw [← hby]; exact h7))
                have hge := grownCap_ge w (len + news.length) cap e
                refine done_gsNew (P := P) h o _ (e := e) ?_ ?_ hge (grownCap_le_maxLen w _ _ e (by unfold maxLen; omega)) (upd σ.M id none) (fun q hq => by
                  by_cases e : q = id
                  · subst e; rw [upd_same] at hq; exact absurd rfl hq
                  · rw [upd_ne _ _ e]) (hexec t' _ _ (hts' rfl rfl) hrun)
                · have e1 : ((arr.toList.take (len * P.cellsOf e)).toArray ++ nvs.flatten.toArray ++ Builtin.zeroCells z0.cells (grownCap w (len + news.length) cap e - (len + news.length))).toList.take (cs ++ (news.map (List.map V.er)).flatten).length = arr.toList.take (len * P.cellsOf e) ++ nvs.flatten := by
                    rw [show (cs ++ (news.map (List.map V.er)).flatten).length = (arr.toList.take (len * P.cellsOf e) ++ nvs.flatten).length by
                      rw [List.length_append, List.length_append, hlo, hsz, hcs, hrep.1]]
                    simp only [Array.toList_append]
                    exact List.take_left
                  rw [e1]
                  exact hr.append hrep
                · simp only [Array.size_append, List.size_toArray, hl, hlo, size_zeros, hzl, hsz, ← Nat.add_mul]
                  congr 1; omega
          · exact hp.elim
        | nils =>
          simp only at hp ⊢
          cases hs
          exact fresh _ none rfl hp (.inl rfl)
        | sl els tk =>
          cases els with
          | cons _ _ => cases tk <;> exact hp.elim
          | nil =>
            cases tk with
            | ex =>
              obtain ⟨b1, o1, rfl⟩ := rep_ex hs
              exact fresh _ _ rfl hp (.inr ⟨_, rfl⟩)
            | _ => exact hp.elim
        | _ => exact hp.elim
      · exact hp.elim
    · exact hp.elim
  · exact hp.elim
end
end
section
open Go

section
variable {P : Program} {E : Env} {N : Nat} {p : Path} {ds : List Deferred} {G : Ghost} {σ : St} {a : Act} {w : World}

theorem put_M (σ : St) (N : Nat) (d : Option Nat) (v : V) : (σ.put N d v).M = σ.M := by
  unfold St.put; split <;> try rfl
  split <;> rfl
theorem put_K (σ : St) (N : Nat) (d : Option Nat) (v : V) : (σ.put N d v).K = σ.K := by
  unfold St.put; split <;> try rfl
  split <;> rfl
theorem put_cnt (σ : St) (N : Nat) (d : Option Nat) (v : V) : (σ.put N d v).cnt = σ.cnt := by
  unfold St.put; split <;> try rfl
  split <;> rfl

/-- What comes behind an operation: the state that it leads to. -/
def Then (N : Nat) (p : Path) (ds : List Deferred) (G : Ghost) (σ : St) (w : World) (st : St) (next : Act → World → Prop) : Prop :=
  ∀ G' a' w', Tr p G σ.M σ.K w G' st.M st.K w' → Rel N p ds G' st a' w' → next a' w'
theorem of_done {o : Oper} {c : Core} (hd : Done P N p ds G σ a w o c) {next : Act → World → Prop} {Q : Exit → Act → World → Prop}
    (hn : Then N p ds G σ w (({ σ with M := c.M, K := c.K, cnt := c.cnt } : St).put N o.dst c.v) next) : o.wp P a w next Q := by
  obtain ⟨v, w', G', he, hr, ht, hR⟩ := hd
  have := hn G' (a.put o.dst v) w' (by rw [put_M, put_K]; exact ht) (hR.put hr o.dst)
  rcases he with he | ⟨he, rfl⟩
  · simp only [Oper.wp, he, Oper.upon]; exact this
  · simp only [Oper.wp, he, Oper.upon]; exact this

theorem run_call (h : Rel N p ds G σ a w) (o : Oper) (f : Operand) (args : Array Operand) (ts : Array TypeId) (ho : o.op = .call { callee := .value f, args := args, argTypes := ts }) {g : FuncId} {caps : List V} (hf : σ.ev f = .fn g caps) (hg : Callable P g) :
    ∃ argsC, RepL G argsC (args.toList.map σ.ev ++ caps) ∧ (execOp a.eval o).run P w = .ok (.enter g argsC.toArray) w := by
  have hx := h.eval f
  rw [hf] at hx
  obtain ⟨arr, he, hl⟩ := rep_fn_inv hx
  refine ⟨args.toList.map a.eval ++ arr.toList, (repL_eval h _).append hl, ?_⟩
  obtain ⟨dst, op, type, pos, after, guard⟩ := o
  simp only at ho; subst ho
  have e : (args.toList.map a.eval ++ arr.toList).toArray = (#[] ++ args.map a.eval) ++ arr := by
    apply Array.ext'; simp
  rw [e]
  show (do let d ← resolve a.eval ⟨.value f, args, ts⟩ type; invoke d.target d.args : Sem Next).run P w = _
  simp only [resolve, he, Deferred.ofValue, Sem.run_bind, Sem.run_pure, Result.andThen_ok, invoke, run_callFunc hg]
theorem Sim.rename {M : Mem} {K K0 : Toks} {t id : Path} (h : Sim G M K w) (hk : K t = true) {x : Nat × Nat × Nat × Nat} (hx : G.tl t = some x) (hf : G.tl id = none) (hK : ∀ u, K0 u = true → K u = true ∧ u ≠ t) :
    Sim (G.addTok id x) M (upd K0 id true) w := by
  have hle := Ghost.addTok_le hf x
  have main : ∀ u y, upd K0 id true u = true → (G.addTok id x).tl u = some y → (u = id ∧ y = x) ∨ (u ≠ id ∧ u ≠ t ∧ K u = true ∧ G.tl u = some y) := fun u y hu hy => by
    by_cases e : u = id
    · subst e; simp [Ghost.addTok] at hy; exact .inl ⟨rfl, hy.symm⟩
    · rw [upd_ne _ _ e] at hu; simp [Ghost.addTok, e] at hy
      exact .inr ⟨e, (hK u hu).2, (hK u hu).1, hy⟩
  refine ⟨h.fx, fun q cs hm => ?_, h.mp, h.inj, fun u hu => ?_, fun u u' g y y' hu hu' h1 h2 => ?_, h.tb⟩
  · obtain ⟨b, arr, T, hl, hh, hr⟩ := h.box q cs hm
    exact ⟨b, arr, T, hl, hh, hr.mono hle hl fun _ => rfl⟩
  · by_cases e : u = id
    · subst e
      obtain ⟨g, cap, s, n, arr, T, ht, hrest⟩ := h.tok t hk
      rw [hx] at ht; cases ht
      exact ⟨g, cap, s, n, arr, T, by simp [Ghost.addTok], hrest⟩
    · rw [upd_ne _ _ e] at hu
      obtain ⟨g, cap, s, n, arr, T, ht, hrest⟩ := h.tok u (hK u hu).1
      exact ⟨g, cap, s, n, arr, T, by simp [Ghost.addTok, e]; exact ht, hrest⟩
  · rcases main u _ hu h1 with ⟨e, ex⟩ | ⟨e, e2, hk1, ht1⟩ <;> rcases main u' _ hu' h2 with ⟨e', ex'⟩ | ⟨e', e2', hk2, ht2⟩
    · rw [e, e']
    · exact absurd (h.tinj u' t g y' y hk2 hk ht2 (by rw [hx, ex])) e2'
    · exact absurd (h.tinj u t g y y' hk1 hk ht1 (by rw [hx, ex'])) e2
    · exact h.tinj u u' g y y' hk1 hk2 ht1 ht2
theorem Tr.rename {M : Mem} {K K0 : Toks} {t id : Path} (w : World) (hk : K t = true) {x : Nat × Nat × Nat × Nat} (hx : G.tl t = some x) (hf : G.tl id = none) (hK : ∀ u, K0 u = true → K u = true ∧ u ≠ t) :
    Tr id G M K w (G.addTok id x) M (upd K0 id true) w := by
  refine ⟨Ghost.addTok_le hf x, fun q hq => ⟨rfl, by simp only [Ghost.addTok]; rw [if_neg (show ¬ q = id from fun e => hq (by rw [e]; exact List.suffix_refl _))]⟩, rfl, rfl, rfl, Nat.le_refl _, fun _ _ _ => rfl, fun b hb hw => ?_, fun _ _ _ _ => rfl⟩
  rcases hw with ⟨q, hm, hl⟩ | ⟨u, y, hu, hy⟩
  · exact .inl ⟨q, hm, hl⟩
  · by_cases e : u = id
    · subst e; simp [Ghost.addTok] at hy; exact .inr ⟨t, y, hk, by rw [hx, hy]⟩
    · rw [upd_ne _ _ e] at hu; simp [Ghost.addTok, e] at hy; exact .inr ⟨u, y, (hK u hu).1, hy⟩
theorem K_fresh {M : Mem} {K : Toks} (h : Sim G M K w) {t : Path} (hf : G.tl t = none) : K t = false := by
  cases hk : K t with
  | false => rfl
  | true => obtain ⟨g, cap, s, n, arr, T, ht, _⟩ := h.tok t hk; rw [hf] at ht; cases ht

theorem rep_retok {v : Value} {els : List (List V)} {t id : Path} {s : Nat} (h : Rep G v (.sl els (.own t s))) (he : G.tl id = G.tl t) : Rep G v (.sl els (.own id s)) := by
  cases h with
  | sl b o c s' _ _ vs hs hc hm hfx hrep hex htk =>
    exact .sl b o c s' els _ vs hs hc hm hfx hrep (by simp) (fun q s1 e => by
      cases e
      have h1 := htk t s rfl
      exact ⟨h1.1, h1.2.1, by rw [he]; exact h1.2.2⟩)
theorem call_sound (hE : EnvOk P E) (h : Rel N p ds G σ a w) (o : Oper) (f : Operand) (args : Array Operand) (ts : Array TypeId) (ho : o.op = .call { callee := .value f, args := args, argTypes := ts }) {g : FuncId} {caps : List V} (hf : σ.ev f = .fn g caps)
    (hp : (coreCall E p g (args.toList.map σ.ev ++ caps) o.dst σ.M σ.K σ.cnt).pre) {next : Act → World → Prop} {Q : Exit → Act → World → Prop}
    (hn : Then N p ds G σ w (({ σ with M := (coreCall E p g (args.toList.map σ.ev ++ caps) o.dst σ.M σ.K σ.cnt).M, K := (coreCall E p g (args.toList.map σ.ev ++ caps) o.dst σ.M σ.K σ.cnt).K, cnt := (coreCall E p g (args.toList.map σ.ev ++ caps) o.dst σ.M σ.K σ.cnt).cnt } : St).put N o.dst (coreCall E p g (args.toList.map σ.ev ++ caps) o.dst σ.M σ.K σ.cnt).v) next) :
    o.wp P a w next Q := by
  have go : Callable P g → (∀ argsC, RepL G argsC (args.toList.map σ.ev ++ caps) → Calls P g argsC.toArray w fun e w' => match e with | .returned v => next (a.put o.dst v) w' | .panicked chain => Q (.panic chain) a w' | .outgrown => LetsOut Q) → o.wp P a w next Q := fun hc hk => by
    obtain ⟨argsC, hl, hr⟩ := run_call h o f args ts ho hf hc
    simp only [Oper.wp, hr, Oper.upon]
    exact (hk argsC hl).mono fun e w' he => by cases e <;> exact he
  unfold coreCall at hp hn
  split at hp
  · rename_i how
    simp only [if_pos how] at hn
    split at hp
    · rename_i s els hpo
      simp only [hpo] at hn
      obtain ⟨hcal, hctr⟩ := hE.po g _ s els how hpo
      refine go hcal fun argsC hl => ?_
      obtain ⟨b, hb⟩ := h.hid
      refine (hctr (b :: 0 :: p) σ.M σ.K G w argsC h.sim (fun id hid => hb b id (Nat.le_refl _) hid) (repL_erase hl)).mono ?_
      rintro e w' ⟨G', M', K', v, x, rfl, hrep, hsim, htr, rfl, t, rfl, hqt, rfl⟩
      obtain ⟨g0, c0, rfl, hc0, hm0, htl⟩ := rep_own hrep
      have htf := (hb b t (Nat.le_refl _) hqt)
      have hKt : σ.K t = false := K_fresh h.sim htf.2
      have hR1 := h.nexth hb htr hsim
      have hfr := hR1.fresh o.dst (nid σ.cnt p o.dst) (List.suffix_refl _)
      have hKK : ∀ u, σ.K u = true → upd σ.K t true u = true ∧ u ≠ t := fun u hu => by
        have hne : u ≠ t := fun e => by subst e; rw [hKt] at hu; cases hu
        exact ⟨by rw [upd_ne _ _ hne]; exact hu, hne⟩
      have hs2 := hsim.rename (K0 := σ.K) (upd_same _ _ _) htl hfr.2 hKK
      have ht2 := Tr.rename (G := G') (M := σ.M) (K := upd σ.K t true) (K0 := σ.K) w' (upd_same _ _ _) htl hfr.2 hKK
      have hR2 := hR1.next o.dst ht2 hs2
      have hrep2 : Rep (G'.addTok (nid σ.cnt p o.dst) (g0, c0, s, els.length)) (.slice (some ⟨g0, 0, none⟩) els.length c0) (.sl els (.own (nid σ.cnt p o.dst) s)) := by
        exact rep_retok (hrep.mono ht2.le) (by simp [Ghost.addTok, htl])
      refine hn _ _ w' ?_ (hR2.put hrep2 o.dst)
      rw [put_M, put_K]
      exact (htr.mono (Rel.hid_suffix b p)).trans (ht2.mono (Rel.pre_suffix _ _ _))
    · exact hp.elim
  · rename_i how
    simp only [if_neg how] at hn
    have how' : E.own g = false := by simpa using how
    split at hp
    · rename_i hmem
      simp only [if_pos hmem] at hn
      split at hp
      · rename_i x M' K' hmf
        simp only [hmf] at hn
        obtain ⟨hcal, _, hctr⟩ := hE.mf g _ _ _ _ x M' K' how' hmem hmf
        refine go hcal fun argsC hl => ?_
        refine (hctr G w argsC h.sim (h.fresh o.dst) (repL_hand E g hl)).mono ?_
        rintro e w' ⟨G', M1, K1, v, y, rfl, hrep, hsim, htr, rfl, rfl, rfl⟩
        refine hn G' _ w' ?_ ((h.next o.dst htr hsim).put hrep o.dst)
        rw [put_M, put_K]
        exact htr.mono (Rel.pre_suffix _ _ _)
      · exact hp.elim
    · rename_i hmem
      simp only [if_neg hmem] at hn
      have hmem' : E.mem g = false := by simpa using hmem
      split at hp
      · rename_i r hpf
        simp only [hpf] at hn
        obtain ⟨hcal, hctr⟩ := hE.pf g _ r how' hmem' hpf
        refine go hcal fun argsC hl => ?_
        obtain ⟨b, hb⟩ := h.hid
        refine (hctr (b :: 0 :: p) σ.M σ.K G w argsC h.sim (fun id hid => hb b id (Nat.le_refl _) hid) (repL_erase hl)).mono ?_
        rintro e w' ⟨G', M', K', v, x, rfl, hrep, hsim, htr, rfl, rfl, rfl⟩
        refine hn G' _ w' ?_ ((h.nexth hb htr hsim).put hrep o.dst)
        rw [put_M, put_K]
        exact htr.mono (Rel.hid_suffix b p)
      · exact hp.elim

theorem step_sound (hE : EnvOk P E) (h : Rel N p ds G σ a w) (o : Oper) (hp : (opStep P E N p o σ).pre) {next : Act → World → Prop} {Q : Exit → Act → World → Prop}
    (hn : Then N p ds G σ w (opStep P E N p o σ).st next) : o.wp P a w next Q := by
  unfold opStep at hp hn
  simp only at hp hn
  cases ho : o.op with
  | alloc t => exact of_done (done_alloc h o t ho hp) hn
  | box t x => exact of_done (done_boxOp h o t x ho hp) hn
  | buildSlice t len ps => exact of_done (done_lit h o t len ps ho hp) hn
  | store t x y => exact of_done (done_store h o t x y ho hp) hn
  | makeSlice t x y => exact of_done (done_make h o t x y ho hp) hn
  | call c =>
    obtain ⟨callee, args, ts⟩ := c
    cases callee with
    | value f =>
      rw [ho] at hp hn
      simp only [opCore] at hp hn
      cases hf : σ.ev f <;> rw [hf] at hp hn <;> try exact hp.elim
      exact call_sound hE h o f args ts ho hf hp hn
    | invoke r m => rw [ho] at hp; exact hp.elim
    | builtin b =>
      by_cases hb : b = .append
      · subst hb
        rw [ho] at hp hn
        simp only [opCore] at hp hn
        split at hp
        · rename_i s x hargs
          simp only [hargs] at hn
          have hargs' : args = #[s, x] := Array.ext' (by simpa using hargs)
          subst hargs'
          by_cases hgs : E.gs o.dst = true
          · simp only [hgs, if_true] at hp hn
            exact of_done (done_gs h o ts s x ho hp) hn
          · simp only [hgs, if_false, Bool.false_eq_true] at hp hn
            exact of_done (done_append h o ts s x ho hp) hn
        · exact hp.elim
      · have hc : opCore P E p σ.ev σ.M σ.K σ.cnt o.dst o.op = coreR (rop P E σ.ev σ.M o.op) σ.M σ.K σ.cnt := by
          rw [ho]; cases b <;> first | exact absurd rfl hb | rfl
        rw [hc] at hp hn
        exact of_done (done_reg hE h o hp) hn
  | _ =>
    have hc : opCore P E p σ.ev σ.M σ.K σ.cnt o.dst o.op = coreR (rop P E σ.ev σ.M o.op) σ.M σ.K σ.cnt := by rw [ho]; rfl
    rw [hc] at hp hn
    exact of_done (done_reg hE h o hp) hn

/-! ### Guards -/
def gd (ops : Array Oper) (o : Oper) (get : Nat → V) : Option Bool := match o.guard with
  | none => some true
  | some (j, want) => match (ops[j]?).bind (·.dst) with
    | none => some false
    | some d => match get d with
      | .bool b => some (b == want)
      | .tup [] => some false
      | _ => none
def evG (get : Nat → V) : Operand → V
  | .tmp t => get t
  | .const c => ofVal c
  | .global g => gval g
  | .func f => .fn f []
theorem ev_eq (σ : St) : σ.ev = evG σ.get := by funext x; cases x <;> rfl
def gCore (P : Program) (E : Env) (p : Path) (ops : Array Oper) (o : Oper) (get : Nat → V) (M : Mem) (K : Toks) (cnt : Nat → Nat) : Core := match gd ops o get with
  | some true => opCore P E p (evG get) M K cnt o.dst o.op
  | some false => ⟨True, .tup [], M, K, cnt⟩
  | none => coreBad M K cnt
def coreSt (N : Nat) (d : Option Nat) (get : Nat → V) (c : Core) : St := ({ get := get, M := c.M, K := c.K, cnt := c.cnt } : St).put N d c.v
def gStep (P : Program) (E : Env) (N : Nat) (p : Path) (ops : Array Oper) (o : Oper) (σ : St) : Out :=
  let c := gCore P E p ops o σ.get σ.M σ.K σ.cnt
  ⟨c.pre, coreSt N o.dst σ.get c⟩
theorem wanted_eq (h : Rel N p ds G σ a w) (ops : Array Oper) (o : Oper) {c : Bool} (hg : gd ops o σ.get = some c) : Region.wanted o (yielded ops a.tmps) = c := by
  unfold gd at hg
  unfold Region.wanted
  split at hg
  · rename_i e; simp only [e]; cases hg; rfl
  · rename_i j want e
    simp only [e, yielded]
    split at hg
    · rename_i hd; cases hg; simp [hd]
    · rename_i d hd
      rw [hd, Option.bind_some]
      have hv : ∀ v, a.tmps[d]? = some v → Rep G v (σ.get d) := h.tm d
      split at hg
      · rename_i b hb
        cases hg
        by_cases hN : d < a.tmps.size
        · have h1 := hv a.tmps[d] (by simp [hN])
          rw [hb] at h1
          have h2 : a.tmps[d] = .bool b := by generalize a.tmps[d] = z at h1; cases h1; rfl
          rw [show a.tmps[d]? = some (.bool b) by rw [← h2]; simp [hN]]
          simp
        · have := h.rng d (by rw [← h.n]; exact Nat.le_of_not_lt hN); rw [hb] at this; cases this
      · rename_i hb
        cases hg
        by_cases hN : d < a.tmps.size
        · have h1 := hv a.tmps[d] (by simp [hN])
          rw [hb] at h1
          obtain ⟨arr, h2, _⟩ := rep_tup_inv h1
          rw [show a.tmps[d]? = some (.tuple arr) by rw [← h2]; simp [hN]]
          rfl
        · rw [Array.getElem?_eq_none (Nat.le_of_not_lt hN)]; rfl
      · cases hg
theorem gstep_sound (hE : EnvOk P E) (h : Rel N p ds G σ a w) (ops : Array Oper) (i : Nat) (o : Oper) (ho : ops[i]? = some o) (hp : (gStep P E N p ops o σ).pre) {next : Act → World → Prop} {Q : Exit → Act → World → Prop}
    (hn : Then N p ds G σ w (gStep P E N p ops o σ).st next) : wpOp P ops Q i next a w := by
  unfold gStep gCore at hp hn
  simp only at hp hn
  unfold wpOp
  simp only [ho]
  cases hg : gd ops o σ.get with
  | none => rw [hg] at hp; exact hp.elim
  | some c =>
    rw [wanted_eq h ops o hg]
    rw [hg] at hp hn
    cases c with
    | true =>
      simp only [if_true]
      refine .inl (step_sound hE h o (by unfold opStep; rw [ev_eq]; exact hp) ?_)
      unfold opStep; rw [ev_eq]; exact hn
    | false =>
      simp only [Bool.false_eq_true, if_false]
      refine hn G (a.put o.dst undef) w ?_ (h.put (rep_tup (.nil G)) o.dst)
      simp only [coreSt, put_M, put_K]
      exact .refl _ _ _ _ _
def runOps (P : Program) (E : Env) (N : Nat) (p : Path) (ops : Array Oper) : List Oper → St → (St → Prop) → Prop
  | [], σ, K => K σ
  | o :: os, σ, K => (gStep P E N p ops o σ).pre ∧ runOps P E N p ops os (gStep P E N p ops o σ).st K
theorem runOps_wp (hE : EnvOk P E) (ops : Array Oper) {Kf : St → Prop} {Q : Exit → Act → World → Prop} : ∀ (l : List Nat) (os : List Oper) (G : Ghost) (σ : St) (a : Act) (w : World), l.map (fun i => ops[i]?) = os.map some → Rel N p ds G σ a w → runOps P E N p ops os σ Kf →
    (∀ G' σ' a' w', Tr p G σ.M σ.K w G' σ'.M σ'.K w' → Rel N p ds G' σ' a' w' → Kf σ' → Q .normal a' w') → wpOps P ops Q l a w
  | [], os, G, σ, a, w, hl, hR, hr, hK => by
    cases os with
    | nil => exact hK G σ a w (.refl _ _ _ _ _) hR hr
    | cons o os => simp at hl
  | i :: l, os, G, σ, a, w, hl, hR, hr, hK => by
    cases os with
    | nil => simp at hl
    | cons o os =>
      simp only [List.map_cons, List.cons.injEq] at hl
      obtain ⟨h1, h2⟩ := hr
      rw [wpOps_cons]
      refine gstep_sound hE hR ops i o hl.1 h1 fun G' a' w' ht hR' => ?_
      exact runOps_wp hE ops l os G' _ a' w' hl.2 hR' h2 fun G2 σ2 a2 w2 ht2 => hK G2 σ2 a2 w2 (ht.trans ht2)

end
end
end Go.Proofs.YtaacfmakfkaddaaDoor.Ax
