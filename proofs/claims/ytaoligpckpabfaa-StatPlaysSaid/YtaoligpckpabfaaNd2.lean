/-
  Nodes in memory, and their changes. No condition.
-/
import Derived.Test.YtaoligpckpabfaaNd
import Derived.Deep.RegionWith
import Derived.Laws.ResultCell
import Derived.Laws.Rows
namespace Go.Proofs.Ytaoligpckpabfaa
open Go.RowKit
/-- a node -/
structure Nd where
  made : Int
  changed : Int
  version : Int
  kids : Int
  owner : Int
  length : Int
  count : Int
  data : ByteArray
  next : Int
  names : List ByteArray
deriving DecidableEq
def cellsN (s : Nd) (v : Value) : Array Value := #[.int .i64 s.made, .int .i64 s.changed, .int .i64 s.version, .int .i64 s.kids, .int .i64 s.owner, .int .i64 s.length, .int .i64 s.count, .string s.data, .int .i64 s.next, v]
def aggN (s : Nd) (v : Value) : Value := .agg (cellsN s v)
def I64 (z : Int) : Prop := -9223372036854775808 ≤ z ∧ z ≤ 9223372036854775807
theorem moreZ_wf {z : Int} (h : I64 z) : I64 (moreZ z) := by
  unfold moreZ I64 at *
  split <;> omega
structure WfN (s : Nd) : Prop where
  version : I64 s.version
  kids : I64 s.kids
  next : I64 s.next
/-- behind the pointer to block a lies a node; its names lie in none of the blocks of A -/
structure IsNd (w : World) (A : List Nat) (a : Nat) (s : Nd) : Prop where
  row : ∃ ao n c, w.heap[a]? = some (.cells (cellsN s (.slice ao n c)) 27 (0, 0)) ∧ IsS w ao n c s.names ∧ n ≤ 100000 ∧ ∀ p, ao = some p → p.block ∉ A ∧ p.block < w.heap.size
  mem : a ∈ A
theorem isS_keep {w w' : World} {ao : Option Addr} {n c : Nat} {l : List ByteArray} (h : IsS w ao n c l) {S : List Nat} (ho : Only S w w') (hs : ∀ p, ao = some p → p.block ∉ S) : IsS w' ao n c l := by
  refine ⟨h.len, h.nil, ?_⟩
  rcases h.at_ with h0 | ⟨b, off, h1, h2⟩
  · exact .inl h0
  · exact .inr ⟨b, off, h1, fun i hi => ho.cell (h2 i hi) (by simpa using hs _ h1)⟩
theorem IsNd.keep {w w' : World} {A : List Nat} {a : Nat} {s : Nd} (h : IsNd w A a s) {S : List Nat} (ho : Only S w w') (ha : a ∉ S) (hs : ∀ x ∈ S, x ∈ A) : IsNd w' A a s := by
  obtain ⟨⟨ao, n, c, h1, h2, h3, h4⟩, h5⟩ := h
  exact ⟨⟨ao, n, c, ho.keeps h1 ha, isS_keep h2 ho (fun p hp hm => (h4 p hp).1 (hs _ hm)), h3, fun p hp => ⟨(h4 p hp).1, Nat.lt_of_lt_of_le (h4 p hp).2 ho.size⟩⟩, h5⟩
theorem IsNd.below {w w' : World} {A : List Nat} {a : Nat} {s : Nd} (h : IsNd w A a s) (hb : Below w.heap.size w w') : IsNd w' A a s :=
  h.keep (Only.ofBelow hb []) (by simp) (by simp)
theorem IsNd.lt {w : World} {A : List Nat} {a : Nat} {s : Nd} (h : IsNd w A a s) : a < w.heap.size := by
  obtain ⟨⟨ao, n, c, h1, _⟩, _⟩ := h
  exact lt_of_heap h1
theorem size27 : (Try.prog.info? 27).map (·.size) = some 10 := by kernel_rfl
theorem results_row {fn : Func} {p : Tmp} {t : TypeId} {fs : Array Field} (h : fn.results = #[.cell p t]) (tmps : Array Value) (w : World) (g : Nat) (cs : Array Value)
    (hp : tmps.getD p undef = .pointer (some ⟨g, 0, none⟩)) (hg : w.heap[g]? = some (.cells cs t (0, 0))) (hu : Try.prog.underlying t = some (.struct fs)) (hi : (Try.prog.info? t).map (·.size) = some cs.size) :
    (results fn tmps).run Try.prog w = .ok (.agg cs) w :=
  results_cell_row h tmps w g t cs (0, 0) _ hp hg hu rfl hi
def newZ (z o : Int) (d : ByteArray) : Nd := ⟨z, z, 0, 0, o, d.size, 0, d, 0, []⟩
set_option maxHeartbeats 400000 in
theorem new_any (z o : Int) (d : ByteArray) (w : World) : Calls Try.prog 10 #[.int .i64 z, .int .i64 o, .string d] w fun e w' => e = .returned (aggN (newZ z o d) (.slice none 0 0)) ∧ Below w.heap.size w w' := by
  go_enter Try.func10, Try.ntmps10
  go_wp2_with fail
  (try simp only [Exit.inBlock, Exit.then])
  refine bodyPost_ret (results_row (fn := Try.f10) rfl _ _ w.heap.size _ rfl (heap_new _ _) Try.underlying27 size27) rfl ?_
  exact ⟨rfl, (Below.refl _ _).alloc (Nat.le_refl _) _⟩
/-- behind stores into its own block -/
theorem IsNd.stored {w w' : World} {A : List Nat} {a : Nat} {s s' : Nd} {ao : Option Addr} {n c : Nat} (h1 : w.heap[a]? = some (.cells (cellsN s (.slice ao n c)) 27 (0, 0))) (h2 : IsS w ao n c s.names) (h3 : n ≤ 100000) (h4 : ∀ p, ao = some p → p.block ∉ A ∧ p.block < w.heap.size) (h5 : a ∈ A)
    (ho : Only [a] w w') (he : w'.heap[a]? = some (.cells (cellsN s' (.slice ao n c)) 27 (0, 0))) (hn : s'.names = s.names) : IsNd w' A a s' :=
  ⟨⟨ao, n, c, he, by rw [hn]; exact isS_keep h2 ho (fun p hp hm => (h4 p hp).1 (by rw [List.mem_singleton] at hm; rw [hm]; exact h5)), h3, fun p hp => ⟨(h4 p hp).1, Nat.lt_of_lt_of_le (h4 p hp).2 ho.size⟩⟩, h5⟩
def writeZ (s : Nd) (z : Int) (d : ByteArray) : Nd := { s with changed := z, version := moreZ s.version, length := d.size, data := d }
theorem writeZ_wf {s : Nd} (h : WfN s) (z : Int) (d : ByteArray) : WfN (writeZ s z d) := ⟨moreZ_wf h.version, h.kids, h.next⟩
set_option maxHeartbeats 1000000 in
theorem write_any (A : List Nat) (a : Nat) (s : Nd) (z : Int) (d : ByteArray) (w : World) (h : IsNd w A a s) (hw : WfN s) :
    Calls Try.prog 12 #[.pointer (some ⟨a, 0, none⟩), .int .i64 z, .string d] w fun e w' => e = .returned (.tuple #[]) ∧ IsNd w' A a (writeZ s z d) ∧ Only [a] w w' := by
  obtain ⟨⟨ao, n, c, h1, h2, h3, h4⟩, h5⟩ := h
  have hc1 : w.cell? ⟨a, 1, none⟩ = some (.int .i64 s.changed) := by rw [cell_heap h1]; rfl
  have hc2 : w.cell? ⟨a, 2, none⟩ = some (.int .i64 s.version) := by rw [cell_heap h1]; rfl
  have hc5 : w.cell? ⟨a, 5, none⟩ = some (.int .i64 s.length) := by rw [cell_heap h1]; rfl
  have hc7 : w.cell? ⟨a, 7, none⟩ = some (.string s.data) := by rw [cell_heap h1]; rfl
  have hf : ∀ i, w.frozen? ⟨a, i, none⟩ = false := free_heap h1
  have f1 := hf 1
  have f2 := hf 2
  have f5 := hf 5
  have f7 := hf 7
  have H1 := Lib.hid h1
  have H2 := Lib.hid h2
  have H4 := Lib.hid h4
  have H5 := Lib.hid h5
  have hv := hw.version
  clear h1 h2 h4 h5 hf hw
  go_enter Try.func12, Try.ntmps12
  go_wp2_with fail
  refine (more_any s.version _ hv.1 hv.2).mono ?_
  rintro e w' ⟨rfl, rfl⟩
  generalize hm : moreZ s.version = m
  have HM := Lib.hid hm; clear hm
  go_wp2_with fail
  go_end0
  have ho : Only [a] w ((((w.setCell ⟨a, 7, none⟩ (.string d)).setCell ⟨a, 1, none⟩ (.int .i64 z)).setCell ⟨a, 5, none⟩ (.int .i64 d.size)).setCell ⟨a, 2, none⟩ (.int .i64 m)) :=
    ((((Only.refl _ _).setCell (by simp) _).setCell (by simp) _).setCell (by simp) _).setCell (by simp) _
  refine ⟨rfl, IsNd.stored H1.out H2.out h3 H4.out H5.out ho ?_ rfl, ho⟩
  rw [writeZ, HM.out]
  exact heap_set (heap_set (heap_set (heap_set H1.out 7 _) 1 _) 5 _) 2 _
theorem bsGo_le (less : Nat → Bool) : ∀ (f lo hi : Nat), lo ≤ hi → Lib.bsGo less f lo hi ≤ hi := by
  intro f
  induction f with
  | zero => intro lo hi h; simpa [Lib.bsGo] using h
  | succ f ih =>
    intro lo hi h
    unfold Lib.bsGo
    split
    · split
      · exact ih _ _ (by omega)
      · exact Nat.le_trans (ih _ _ (by omega)) (by omega)
    · exact h
theorem seekS_le (l : List ByteArray) (x : ByteArray) : seekS l x ≤ l.length := bsGo_le _ _ _ _ (Nat.zero_le _)
def addZ (s : Nd) (x : ByteArray) : Nd := if hereS s.names x then s else { s with names := insS s.names (seekS s.names x) x, count := (s.names.length + 1 : Nat), kids := moreZ s.kids, next := moreZ s.next }
def removeZ (s : Nd) (x : ByteArray) : Nd := if hereS s.names x then { s with names := outS s.names (seekS s.names x), count := (s.names.length - 1 : Nat), kids := moreZ s.kids } else s
theorem addZ_wf {s : Nd} (h : WfN s) (x : ByteArray) : WfN (addZ s x) := by
  unfold addZ; split
  · exact h
  · exact ⟨h.version, moreZ_wf h.kids, moreZ_wf h.next⟩
theorem removeZ_wf {s : Nd} (h : WfN s) (x : ByteArray) : WfN (removeZ s x) := by
  unfold removeZ; split
  · exact ⟨h.version, moreZ_wf h.kids, h.next⟩
  · exact h
theorem add_end {w w3 : World} {A : List Nat} {a : Nat} {s : Nd} {x : ByteArray} {ao a3 : Option Addr} {n c c3 q : Nat} {cv : Value}
    (h3 : n ≤ 100000) (h4 : ∀ p, ao = some p → p.block ∉ A ∧ p.block < w.heap.size) (h5 : a ∈ A) (hA : ∀ k ∈ A, k < w.heap.size) (hb : Below w.heap.size w w3) (h31 : w3.heap[a]? = some (.cells (cellsN s (.slice ao n c)) 27 (0, 0)))
    (hs3 : IsS w3 a3 (n + 1) c3 (insS s.names q x)) (hp3 : ∀ p, a3 = some p → w.heap.size ≤ p.block ∧ p.block < w3.heap.size) (hcv : cv = .int .i64 ((s.names.length + 1 : Nat) : Int)) (hnl : s.names.length = n) (hn : n ≤ 50000) {N : List ByteArray} (hN : insS s.names q x = N) :
    Ending.returned (.bool true) = .returned (.bool !false) ∧
    IsNd ((((w3.setCell ⟨a, 9, none⟩ (.slice a3 (n + 1) c3)).setCell ⟨a, 6, none⟩ cv).setCell ⟨a, 3, none⟩ (.int .i64 (moreZ s.kids))).setCell ⟨a, 8, none⟩ (.int .i64 (moreZ s.next))).drew A a
      { s with names := N, count := (s.names.length + 1 : Nat), kids := moreZ s.kids, next := moreZ s.next } ∧
    Only [a] w ((((w3.setCell ⟨a, 9, none⟩ (.slice a3 (n + 1) c3)).setCell ⟨a, 6, none⟩ cv).setCell ⟨a, 3, none⟩ (.int .i64 (moreZ s.kids))).setCell ⟨a, 8, none⟩ (.int .i64 (moreZ s.next))).drew := by
  subst hcv hN
  have ho : Only [a] w3 ((((w3.setCell ⟨a, 9, none⟩ (.slice a3 (n + 1) c3)).setCell ⟨a, 6, none⟩ (.int .i64 ((s.names.length + 1 : Nat) : Int))).setCell ⟨a, 3, none⟩ (.int .i64 (moreZ s.kids))).setCell ⟨a, 8, none⟩ (.int .i64 (moreZ s.next))).drew :=
    (((((Only.refl _ _).setCell (by simp) _).setCell (by simp) _).setCell (by simp) _).setCell (by simp) _).drew
  refine ⟨rfl, ⟨⟨a3, n + 1, c3, heap_set (heap_set (heap_set (heap_set h31 9 _) 6 _) 3 _) 8 _, isS_keep hs3 ho (fun p hp hm => ?_), by omega, fun p hp => ⟨fun hm => ?_, Nat.lt_of_lt_of_le (hp3 p hp).2 ho.size⟩⟩, h5⟩, (Only.ofBelow hb _).trans ho⟩
  · have := (hp3 p hp).1
    have := hA _ h5
    rw [List.mem_singleton] at hm; omega
  · have := (hp3 p hp).1
    have := hA _ hm
    omega
set_option maxHeartbeats 2000000 in
theorem add_any (A : List Nat) (a : Nat) (s : Nd) (x : ByteArray) (w : World) (h : IsNd w A a s) (hw : WfN s) (hA : ∀ k ∈ A, k < w.heap.size) (hn : s.names.length ≤ 50000) :
    Calls Try.prog 11 #[.pointer (some ⟨a, 0, none⟩), .string x] w fun e w' => e = .returned (.bool (!hereS s.names x)) ∧ IsNd w' A a (addZ s x) ∧ Only [a] w w' := by
  obtain ⟨⟨ao, n, c, h1, h2, h3, h4⟩, h5⟩ := h
  have hc9 : w.cell? ⟨a, 9, none⟩ = some (.slice ao n c) := by rw [cell_heap h1]; rfl
  have hc3 : w.cell? ⟨a, 3, none⟩ = some (.int .i64 s.kids) := by rw [cell_heap h1]; rfl
  have hc6 : w.cell? ⟨a, 6, none⟩ = some (.int .i64 s.count) := by rw [cell_heap h1]; rfl
  have hc8 : w.cell? ⟨a, 8, none⟩ = some (.int .i64 s.next) := by rw [cell_heap h1]; rfl
  have hf : ∀ i, w.frozen? ⟨a, i, none⟩ = false := free_heap h1
  have HS := Lib.hid (search_any ao n c s.names x w h2 (by omega))
  unfold addZ
  by_cases hh : hereS s.names x = true
  · rw [if_pos hh, hh]
    go_enter Try.func11, Try.ntmps11
    go_wp2_with fail
    refine HS.out.mono ?_
    rw [hh]
    rintro e w' ⟨rfl, d, rfl⟩
    go_wp2_with fail
    go_ret
    exact ⟨rfl, IsNd.below ⟨⟨ao, n, c, h1, h2, h3, h4⟩, h5⟩ (below_drew (Below.refl _ _) d), Only.ofBelow (below_drew (Below.refl _ _) d) _⟩
  · have hh2 : hereS s.names x = false := by simpa using hh
    rw [if_neg hh, hh2]
    rw [hh2] at HS
    have hsk := seekS_le s.names x
    have hnl : s.names.length = n := h2.len
    have HC := Lib.hid (fun (d : Nat) => clone_any ao n c s.names (w.drewN d) (isS_keep h2 (Only.ofBelow (below_drew (Below.refl _ _) d) []) (by simp)) (by omega))
    have H1 := Lib.hid h1
    have H2 := Lib.hid h2
    have H4 := Lib.hid h4
    have H5 := Lib.hid h5
    have HA := Lib.hid hA
    have HNL := Lib.hid hnl
    generalize hsq : seekS s.names x = q at *
    have HSQ := Lib.hid hsq
    have hal : a < w.heap.size := lt_of_heap h1
    have hk := hw.kids
    have hx := hw.next
    obtain ⟨hk1, hk2⟩ := hk
    obtain ⟨hx1, hx2⟩ := hx
    clear h1 h2 h4 h5 hA hh hh2 hw hsq hf
    go_enter Try.func11, Try.ntmps11
    go_wp2_with fail
    refine HS.out.mono ?_
    rintro e w1 ⟨rfl, d, rfl⟩
    go_wp2_with fail
    refine (HC.out d).mono ?_
    rintro e w2 ⟨v, rfl, ho2, hb2⟩
    go_wp2_with fail
    obtain ⟨a2, c2, rfl, hi2⟩ := ho2.isS
    rw [HNL.out] at hi2 ho2 ⊢
    have hb20 : Below w.heap.size w w2 := (below_drew (Below.refl _ _) d).trans hb2
    have hsz := hb20.size
    have hI := insert_any w.heap.size a2 n c2 s.names q x w2.heap.size 1 (w2.alloc (.cells #[.string x] 9)) (ho2.alloc _) HNL.out (by omega) (heap_new _ _) (fun p hp => by
      subst hp
      have := (ho2.lt p.block rfl).2
      omega) (by simp; omega) (by omega)
    have HI := Lib.hid hI
    have HB := Lib.hid (hb20.alloc hsz (.cells #[.string x] 9))
    clear hI hb2 hb20 ho2 hi2 hsz
    refine HI.out.mono ?_
    rintro e w3 ⟨a3, c3, rfl, hs3, hp3, hb3⟩
    have HB3 := Lib.hid (HB.out.trans hb3)
    have hc9' : w3.cell? ⟨a, 9, none⟩ = some (.slice ao n c) := cell_later HB3.out hc9
    have hc3' : w3.cell? ⟨a, 3, none⟩ = some (.int .i64 s.kids) := cell_later HB3.out hc3
    have hc6' : w3.cell? ⟨a, 6, none⟩ = some (.int .i64 s.count) := cell_later HB3.out hc6
    have hc8' : w3.cell? ⟨a, 8, none⟩ = some (.int .i64 s.next) := cell_later HB3.out hc8
    have h31 : w3.heap[a]? = some (.cells (cellsN s (.slice ao n c)) 27 (0, 0)) := by rw [HB3.out.block a hal]; exact H1.out
    have hf : ∀ i, w3.frozen? ⟨a, i, none⟩ = false := free_heap h31
    have f9 := hf 9
    have f3 := hf 3
    have f6 := hf 6
    have f8 := hf 8
    have H31 := Lib.hid h31
    have HS3 := Lib.hid hs3
    have HP3 := Lib.hid hp3
    clear hs3 hp3 hb3 h31 hf hc9 hc3 hc6 hc8
    go_wp2_with fail
    go_region_with (go_at_call 30; refine (more_any _ _ (by assumption) (by assumption)).mono ?_; rintro e w4 ⟨rfl, rfl⟩)
    all_goals
      go_wp2_with fail
      go_ret
      exact add_end h3 H4.out H5.out HA.out HB3.out H31.out HS3.out HP3.out (by rw [← HNL.out]; rfl) HNL.out (by omega) rfl
theorem hereS_lt {l : List ByteArray} {x : ByteArray} (h : hereS l x = true) : seekS l x < l.length := by
  unfold hereS at h
  exact (of_decide_eq_true h).1
theorem rem_end {w w3 : World} {A : List Nat} {a : Nat} {s : Nd} {ao a3 : Option Addr} {n c c3 q : Nat} {cv : Value}
    (h3 : n ≤ 100000) (h4 : ∀ p, ao = some p → p.block ∉ A ∧ p.block < w.heap.size) (h5 : a ∈ A) (hA : ∀ k ∈ A, k < w.heap.size) (hb : Below w.heap.size w w3) (h31 : w3.heap[a]? = some (.cells (cellsN s (.slice ao n c)) 27 (0, 0)))
    (hs3 : IsS w3 a3 (n - 1) c3 (outS s.names q)) (hp3 : ∀ p, a3 = some p → w.heap.size ≤ p.block ∧ p.block < w3.heap.size) (hcv : cv = .int .i64 ((s.names.length - 1 : Nat) : Int)) (hnl : s.names.length = n) (hn : n ≤ 50000) (hq : q < n) {N : List ByteArray} (hN : outS s.names q = N) :
    Ending.returned (.bool true) = .returned (.bool true) ∧
    IsNd (((w3.setCell ⟨a, 9, none⟩ (.slice a3 (n - 1) c3)).setCell ⟨a, 6, none⟩ cv).setCell ⟨a, 3, none⟩ (.int .i64 (moreZ s.kids))) A a
      { s with names := N, count := (s.names.length - 1 : Nat), kids := moreZ s.kids } ∧
    Only [a] w (((w3.setCell ⟨a, 9, none⟩ (.slice a3 (n - 1) c3)).setCell ⟨a, 6, none⟩ cv).setCell ⟨a, 3, none⟩ (.int .i64 (moreZ s.kids))) := by
  subst hcv hN
  have ho : Only [a] w3 (((w3.setCell ⟨a, 9, none⟩ (.slice a3 (n - 1) c3)).setCell ⟨a, 6, none⟩ (.int .i64 ((s.names.length - 1 : Nat) : Int))).setCell ⟨a, 3, none⟩ (.int .i64 (moreZ s.kids))) :=
    (((Only.refl _ _).setCell (by simp) _).setCell (by simp) _).setCell (by simp) _
  refine ⟨rfl, ⟨⟨a3, n - 1, c3, heap_set (heap_set (heap_set h31 9 _) 6 _) 3 _, isS_keep hs3 ho (fun p hp hm => ?_), by omega, fun p hp => ⟨fun hm => ?_, Nat.lt_of_lt_of_le (hp3 p hp).2 ho.size⟩⟩, h5⟩, (Only.ofBelow hb _).trans ho⟩
  · have := (hp3 p hp).1
    have := hA _ h5
    rw [List.mem_singleton] at hm; omega
  · have := (hp3 p hp).1
    have := hA _ hm
    omega
set_option maxHeartbeats 2000000 in
theorem remove_any (A : List Nat) (a : Nat) (s : Nd) (x : ByteArray) (w : World) (h : IsNd w A a s) (hw : WfN s) (hA : ∀ k ∈ A, k < w.heap.size) (hn : s.names.length ≤ 50000) :
    Calls Try.prog 14 #[.pointer (some ⟨a, 0, none⟩), .string x] w fun e w' => e = .returned (.bool (hereS s.names x)) ∧ IsNd w' A a (removeZ s x) ∧ Only [a] w w' := by
  obtain ⟨⟨ao, n, c, h1, h2, h3, h4⟩, h5⟩ := h
  have hc9 : w.cell? ⟨a, 9, none⟩ = some (.slice ao n c) := by rw [cell_heap h1]; rfl
  have hc3 : w.cell? ⟨a, 3, none⟩ = some (.int .i64 s.kids) := by rw [cell_heap h1]; rfl
  have hc6 : w.cell? ⟨a, 6, none⟩ = some (.int .i64 s.count) := by rw [cell_heap h1]; rfl
  have hf : ∀ i, w.frozen? ⟨a, i, none⟩ = false := free_heap h1
  have HS := Lib.hid (search_any ao n c s.names x w h2 (by omega))
  unfold removeZ
  by_cases hh : hereS s.names x = true
  · rw [if_pos hh, hh]
    rw [hh] at HS
    have hsk := hereS_lt hh
    have hnl : s.names.length = n := h2.len
    have HC := Lib.hid (fun (d : Nat) => clone_any ao n c s.names (w.drewN d) (isS_keep h2 (Only.ofBelow (below_drew (Below.refl _ _) d) []) (by simp)) (by omega))
    have H1 := Lib.hid h1
    have H2 := Lib.hid h2
    have H4 := Lib.hid h4
    have H5 := Lib.hid h5
    have HA := Lib.hid hA
    have HNL := Lib.hid hnl
    generalize hsq : seekS s.names x = q at *
    have HSQ := Lib.hid hsq
    have hal : a < w.heap.size := lt_of_heap h1
    have hk := hw.kids
    obtain ⟨hk1, hk2⟩ := hk
    have hq1 : IntKind.i64.wrap ((q : Int) + 1) = (q : Int) + 1 := IntWalk.i64_in _ (by omega)
    clear h1 h2 h4 h5 hA hh hw hsq hf
    go_enter Try.func14, Try.ntmps14
    go_wp2_with fail
    refine HS.out.mono ?_
    rintro e w1 ⟨rfl, d, rfl⟩
    go_wp2_with fail
    refine (HC.out d).mono ?_
    rintro e w2 ⟨v, rfl, ho2, hb2⟩
    go_wp2_with fail
    obtain ⟨a2, c2, rfl, hi2⟩ := ho2.isS
    rw [HNL.out] at hi2 ho2 ⊢
    have hb20 : Below w.heap.size w w2 := (below_drew (Below.refl _ _) d).trans hb2
    have hsz := hb20.size
    have hI := delete_any w.heap.size a2 n c2 s.names q w2 ho2 HNL.out (by omega) (by omega)
    rw [show (((q + 1 : Nat)) : Int) = (q : Int) + 1 from rfl] at hI
    have HI := Lib.hid hI
    have HB := Lib.hid hb20
    clear hI hb2 hb20 ho2 hi2 hsz
    refine HI.out.mono ?_
    rintro e w3 ⟨rfl, hs3, hb3⟩
    have HB3 := Lib.hid (HB.out.trans hb3)
    have hc9' : w3.cell? ⟨a, 9, none⟩ = some (.slice ao n c) := cell_later HB3.out hc9
    have hc3' : w3.cell? ⟨a, 3, none⟩ = some (.int .i64 s.kids) := cell_later HB3.out hc3
    have hc6' : w3.cell? ⟨a, 6, none⟩ = some (.int .i64 s.count) := cell_later HB3.out hc6
    have h31 : w3.heap[a]? = some (.cells (cellsN s (.slice ao n c)) 27 (0, 0)) := by rw [HB3.out.block a hal]; exact H1.out
    have hf : ∀ i, w3.frozen? ⟨a, i, none⟩ = false := free_heap h31
    have f9 := hf 9
    have f3 := hf 3
    have f6 := hf 6
    have H31 := Lib.hid h31
    have hol : (outS s.names q).length = n - 1 := by simp [outS]; omega
    have hs4 := hs3.isS
    rw [hol] at hs4
    obtain ⟨a4, c4, e4, hs4⟩ := hs4
    simp only [Value.slice.injEq, true_and] at e4
    obtain ⟨rfl, rfl⟩ := e4
    have HS3 := Lib.hid hs4
    have HP3 := Lib.hid (show ∀ p, a2 = some p → w.heap.size ≤ p.block ∧ p.block < w3.heap.size from fun p hp => by subst hp; exact hs3.lt p.block rfl)
    clear hs3 hs4 hb3 h31 hf hc9 hc3 hc6 hol
    go_wp2_with fail
    refine (more_any s.kids _ hk1 hk2).mono ?_
    rintro e w4 ⟨rfl, rfl⟩
    go_wp2_with fail
    go_ret
    exact rem_end h3 H4.out H5.out HA.out HB3.out H31.out HS3.out HP3.out (by rw [← HNL.out]) HNL.out (by omega) (by omega) rfl
  · have hh2 : hereS s.names x = false := by simpa using hh
    rw [if_neg hh, hh2]
    go_enter Try.func14, Try.ntmps14
    go_wp2_with fail
    refine HS.out.mono ?_
    rw [hh2]
    rintro e w' ⟨rfl, d, rfl⟩
    go_wp2_with fail
    go_ret
    exact ⟨rfl, IsNd.below ⟨⟨ao, n, c, h1, h2, h3, h4⟩, h5⟩ (below_drew (Below.refl _ _) d), Only.ofBelow (below_drew (Below.refl _ _) d) _⟩
theorem eph_any (A : List Nat) (a : Nat) (s : Nd) (w : World) (h : IsNd w A a s) :
    Calls Try.prog 21 #[.pointer (some ⟨a, 0, none⟩)] w fun e w' => e = .returned (.bool (s.owner != 0)) ∧ w = w' := by
  obtain ⟨⟨ao, n, c, h1, h2, h3, h4⟩, h5⟩ := h
  have hc4 : w.cell? ⟨a, 4, none⟩ = some (.int .i64 s.owner) := by rw [cell_heap h1]; rfl
  clear h1 h2 h4
  go_enter Try.func21, Try.ntmps21
  go_wp2_with fail
  go_ret
  exact ⟨rfl, rfl⟩
end Go.Proofs.Ytaoligpckpabfaa
