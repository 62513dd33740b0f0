/- redactorlaw19.Files: its five files. No conditions. -/
import Derived.Test.YtceflmoiiiclcaaDoorExtWord
import Derived.Lib.SlBytesConst
namespace Go.Proofs.YtceflmoiiiclcaaDoor.PX
open Go.RowKit Go.Proofs.YtceflmoiiiclcaaDoorW.PrintWords Go.Proofs.YtceflmoiiiclcaaDoorW.PrintLast Go.Proofs.YtceflmoiiiclcaaDoorW.PrintMore
set_option linter.unusedVariables false
set_option linter.unusedSimpArgs false
def filesL : List S54 := [⟨⟨#[115]⟩, [112, 10, 112, 10]⟩, ⟨⟨#[120]⟩, [97, 10, 98]⟩, ⟨⟨#[121]⟩, []⟩, ⟨⟨#[108, 111, 99]⟩, [99, 108, 97, 115, 115, 32, 97, 108, 112, 104, 97, 32, 60, 85, 48, 48, 54, 49, 62]⟩, ⟨⟨#[115]⟩, [100]⟩]
def redactorlaw19_Files.f : Option (List S54) := some filesL
theorem bytesC (W : World) (g : Nat) (l : List Int) (fz : Nat × Nat) (h : W.heap[g]? = some (.cells (l.map (Value.int .u8)).toArray 5 fz)) (hl : l.length ≤ 100) : Kd.C (Kd.int .u8) W (some ⟨g, 0, none⟩) l.length l := by
  refine ⟨rfl, by omega, fun _ => ⟨⟨g, 0, none⟩, rfl, fun j p hj => ⟨[.int .u8 p], rfl, rfl, fun i u hu => ?_⟩⟩⟩
  obtain ⟨rfl, rfl⟩ : i = 0 ∧ u = .int .u8 p := by
    rcases i with _ | i
    · exact ⟨rfl, (Option.some.inj hu).symm⟩
    · simp at hu
  show W.cell? ((⟨g, 0, none⟩ : Addr).add (j * 1 + 0)) = _
  rw [show (⟨g, 0, none⟩ : Addr).add (j * 1 + 0) = ⟨g, j, none⟩ by rcases j with _ | j <;> simp [Addr.add]]
  simp [World.cell?, h, hj]
/-- The five files, in five blocks. -/
theorem filesC (W : World) (b : Nat) (f0 f1 f2 f3 f4 : Nat × Nat) (h0 : W.heap[b]? = some (.cells (([112, 10, 112, 10] : List Int).map (Value.int .u8)).toArray 5 f0)) (h1 : W.heap[b + 1]? = some (.cells (([97, 10, 98] : List Int).map (Value.int .u8)).toArray 5 f1))
    (h2 : W.heap[b + 1 + 1]? = some (.cells (([99, 108, 97, 115, 115, 32, 97, 108, 112, 104, 97, 32, 60, 85, 48, 48, 54, 49, 62] : List Int).map (Value.int .u8)).toArray 5 f2)) (h3 : W.heap[b + 1 + 1 + 1]? = some (.cells (([100] : List Int).map (Value.int .u8)).toArray 5 f3))
    (h4 : W.heap[b + 1 + 1 + 1 + 1]? = some (.cells #[.string ⟨#[115]⟩, .slice (some ⟨b, 0, none⟩) 4 4, .string ⟨#[120]⟩, .slice (some ⟨b + 1, 0, none⟩) 3 3, .string ⟨#[121]⟩, .slice none 0 0, .string ⟨#[108, 111, 99]⟩, .slice (some ⟨b + 1 + 1, 0, none⟩) 19 19, .string ⟨#[115]⟩, .slice (some ⟨b + 1 + 1 + 1, 0, none⟩) 1 1] 54 f4)) :
    Kd.C k54 W (some ⟨b + 1 + 1 + 1 + 1, 0, none⟩) 5 filesL := by
  have c : ∀ j u, (#[.string ⟨#[115]⟩, .slice (some ⟨b, 0, none⟩) 4 4, .string ⟨#[120]⟩, .slice (some ⟨b + 1, 0, none⟩) 3 3, .string ⟨#[121]⟩, .slice none 0 0, .string ⟨#[108, 111, 99]⟩, .slice (some ⟨b + 1 + 1, 0, none⟩) 19 19, .string ⟨#[115]⟩, .slice (some ⟨b + 1 + 1 + 1, 0, none⟩) 1 1] : Array Value)[j]? = some u → W.cell? ⟨b + 1 + 1 + 1 + 1, 0 + j, none⟩ = some u := fun j u hu => by
    unfold World.cell?
    rw [h4]
    simpa using hu
  refine ⟨rfl, by decide, fun _ => ⟨⟨b + 1 + 1 + 1 + 1, 0, none⟩, rfl, fun j p hj => ?_⟩⟩
  have two : ∀ (x y : Value) (i : Nat) (u : Value), ([x, y] : List Value)[i]? = some u → (i = 0 ∧ u = x) ∨ (i = 1 ∧ u = y) := fun x y i u hu => by
    rcases i with _ | _ | i
    · exact .inl ⟨rfl, (Option.some.inj hu).symm⟩
    · exact .inr ⟨rfl, (Option.some.inj hu).symm⟩
    · simp at hu
  rcases j with _ | _ | _ | _ | _ | j
  · obtain rfl := Option.some.inj hj
    refine ⟨_, rfl, k54_mk W _ (Nat.le_refl _) (bytesC W b [112, 10, 112, 10] f0 h0 (by decide)), fun i u hu => ?_⟩
    rcases two _ _ i u hu with ⟨rfl, rfl⟩ | ⟨rfl, rfl⟩
    · exact c 0 _ rfl
    · exact c 1 _ rfl
  · obtain rfl := Option.some.inj hj
    refine ⟨_, rfl, k54_mk W _ (Nat.le_refl _) (bytesC W (b + 1) [97, 10, 98] f1 h1 (by decide)), fun i u hu => ?_⟩
    rcases two _ _ i u hu with ⟨rfl, rfl⟩ | ⟨rfl, rfl⟩
    · exact c 2 _ rfl
    · exact c 3 _ rfl
  · obtain rfl := Option.some.inj hj
    refine ⟨_, rfl, k54_mk W _ (Nat.le_refl _) (Kd.C_nil _ _), fun i u hu => ?_⟩
    rcases two _ _ i u hu with ⟨rfl, rfl⟩ | ⟨rfl, rfl⟩
    · exact c 4 _ rfl
    · exact c 5 _ rfl
  · obtain rfl := Option.some.inj hj
    refine ⟨_, rfl, k54_mk W _ (Nat.le_refl _) (bytesC W (b + 1 + 1) [99, 108, 97, 115, 115, 32, 97, 108, 112, 104, 97, 32, 60, 85, 48, 48, 54, 49, 62] f2 h2 (by decide)), fun i u hu => ?_⟩
    rcases two _ _ i u hu with ⟨rfl, rfl⟩ | ⟨rfl, rfl⟩
    · exact c 6 _ rfl
    · exact c 7 _ rfl
  · obtain rfl := Option.some.inj hj
    refine ⟨_, rfl, k54_mk W _ (Nat.le_refl _) (bytesC W (b + 1 + 1 + 1) [100] f3 h3 (by decide)), fun i u hu => ?_⟩
    rcases two _ _ i u hu with ⟨rfl, rfl⟩ | ⟨rfl, rfl⟩
    · exact c 8 _ rfl
    · exact c 9 _ rfl
  · simp [filesL] at hj
#print axioms filesC
set_option maxHeartbeats 4000000 in
set_option maxRecDepth 100000 in
theorem redactorlaw19_Files.calls (r : List S54) (w : World) (h : redactorlaw19_Files.f = some r) :
    Calls Tryd.prog 16 #[] w fun e w' => ∃ v, e = .returned v ∧ Kd.V k54 54 w' w.heap.size (fun k => w.heap.size ≤ k) v r ∧ Below w.heap.size w w' := by
  have kc := fun (w : World) (C : Array Value) (n c : Nat) => Lib.run_convert_bytes_const (P := Tryd.prog) w 29 5 C n c Tryd.underlying29 Tryd.underlying5
  have kc1 : ∀ (w : World) (o1 : Obj) (C : Array Value) (n c : Nat), (convert 29 29 (.slice (some ⟨w.heap.size + 1, 0, none⟩) n c)).run Tryd.prog ((w.alloc o1).alloc (.cells C 5)) = .ok (.slice (some ⟨w.heap.size + 1, 0, none⟩) n c) ((w.alloc o1).alloc (.cells C 5 (C.size, C.size + 1))) := fun w o1 C n c => by
    have h1 := kc (w.alloc o1) C n c
    rwa [show (w.alloc o1).heap.size = w.heap.size + 1 from Array.size_push _] at h1
  have kc2 : ∀ (w : World) (o1 o2 : Obj) (C : Array Value) (n c : Nat), (convert 29 29 (.slice (some ⟨w.heap.size + 1 + 1, 0, none⟩) n c)).run Tryd.prog (((w.alloc o1).alloc o2).alloc (.cells C 5)) = .ok (.slice (some ⟨w.heap.size + 1 + 1, 0, none⟩) n c) (((w.alloc o1).alloc o2).alloc (.cells C 5 (C.size, C.size + 1))) := fun w o1 o2 C n c => by
    have h1 := kc1 (w.alloc o1) o2 C n c
    rwa [show (w.alloc o1).heap.size = w.heap.size + 1 from Array.size_push _] at h1
  have kc3 : ∀ (w : World) (o1 o2 o3 : Obj) (C : Array Value) (n c : Nat), (convert 29 29 (.slice (some ⟨w.heap.size + 1 + 1 + 1, 0, none⟩) n c)).run Tryd.prog ((((w.alloc o1).alloc o2).alloc o3).alloc (.cells C 5)) = .ok (.slice (some ⟨w.heap.size + 1 + 1 + 1, 0, none⟩) n c) ((((w.alloc o1).alloc o2).alloc o3).alloc (.cells C 5 (C.size, C.size + 1))) := fun w o1 o2 o3 C n c => by
    have h1 := kc2 (w.alloc o1) o2 o3 C n c
    rwa [show (w.alloc o1).heap.size = w.heap.size + 1 from Array.size_push _] at h1
  go_enter Tryd.func16, Tryd.ntmps16
  go_wp2
  go_ret
  obtain rfl := Option.some.inj h
  have s1 : ∀ (W : World) (o : Obj), (W.alloc o).heap.size = W.heap.size + 1 := fun W o => Array.size_push _
  have at_ : ∀ (W : World) (o : Obj), (W.alloc o).heap[W.heap.size]? = some o := fun W o => by show (W.heap.push o)[W.heap.size]? = _; simp
  have el : ∀ (W : World) (o : Obj) (k : Nat), k < W.heap.size → (W.alloc o).heap[k]? = W.heap[k]? := fun W o k hk => Below.heap_alloc _ _ _ hk
  refine ⟨_, rfl, ⟨some ⟨w.heap.size + 1 + 1 + 1 + 1, 0, none⟩, 5, rfl, Nat.le_refl _, fun W' hW => ?_⟩, by repeat (first | exact Below.refl _ _ | apply below_alloc)⟩
  have g := fun (k : Nat) (h1 : w.heap.size ≤ k) (h2 : k < w.heap.size + 1 + 1 + 1 + 1 + 1) => hW k h1 (by simp only [s1]; exact h2)
  refine filesC W' w.heap.size (4, 5) (3, 4) (19, 20) (1, 2) (0, 0) ?_ ?_ ?_ ?_ ?_
  · rw [g _ (by omega) (by omega), el _ _ _ (by simp only [s1]; omega), el _ _ _ (by simp only [s1]; omega), el _ _ _ (by simp only [s1]; omega), el _ _ _ (by simp only [s1]; omega)]
    exact at_ _ _
  · rw [g _ (by omega) (by omega), el _ _ _ (by simp only [s1]; omega), el _ _ _ (by simp only [s1]; omega), el _ _ _ (by simp only [s1]; omega)]
    rw [← s1]
    exact at_ _ _
  · rw [g _ (by omega) (by omega), el _ _ _ (by simp only [s1]; omega), el _ _ _ (by simp only [s1]; omega)]
    rw [← s1, ← s1]
    exact at_ _ _
  · rw [g _ (by omega) (by omega), el _ _ _ (by simp only [s1]; omega)]
    rw [← s1, ← s1, ← s1]
    exact at_ _ _
  · rw [g _ (by omega) (by omega)]
    rw [← s1, ← s1, ← s1, ← s1]
    exact at_ _ _
#print axioms redactorlaw19_Files.calls
end Go.Proofs.YtceflmoiiiclcaaDoor.PX
